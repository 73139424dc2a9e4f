/- Contracts: a right fact, made from a tape. -/
import Derived.Test.YtepcelekjjalfaaTp
namespace Go.Proofs.Ytepcelekjjalfaa
open Go.RowKit
set_option linter.unusedVariables false

/-- What a call that takes numbers off the tape leaves: a value, the rest of the tape. -/
def TakePost (w : World) (g : Nat) (rest : List Int) (v : Value) (e : Ending) (w' : World) : Prop :=
  e = .returned v ∧ TapeAt w' g rest ∧ w.grownBy w' (some g)
/-- A measurement of about an area. -/
def measA (r : List Int) (about : Int) : Int := max 0 (about + (-12 + nx r 19))
def measBo (r : List Int) : Int := nx r.tail 40

set_option maxHeartbeats 400000 in
theorem measured_any (g : Nat) (r : List Int) (about : Int) (w : World) (ht : TapeAt w g r) (h1 : -1000000 ≤ about) (h2 : about ≤ 1000000) :
    Calls Try.prog 22 #[.pointer (some ⟨g, 0, none⟩), .int .i64 about] w (TakePost w g r.tail.tail (.agg #[.int .i64 (measA r about), .int .i64 (measBo r)])) := by
  have hlt := ht.lt
  have hx := nx_bd r 19 (by omega)
  have hy := nx_bd r.tail 40 (by omega)
  have Ha := Lib.hid (show measA r about = max 0 (about + (-12 + nx r 19)) from rfl)
  have Hb := Lib.hid (show measBo r = nx r.tail 40 from rfl)
  have N1 : Hid (∀ W, TapeAt W g r → Calls Try.prog 20 #[.pointer (some ⟨g, 0, none⟩), .int .i64 (-12), .int .i64 6] W (NextPost W g r (-12 + nx r 19))) := fun W h => range_any g r (-12) 6 W h (by omega) (by omega) (by omega)
  have N2 : Hid (∀ W, TapeAt W g r.tail → Calls Try.prog 11 #[.pointer (some ⟨g, 0, none⟩), .int .i64 40] W (NextPost W g r.tail (nx r.tail 40))) := fun W h => next_any g r.tail 40 W h (by omega)
  generalize nx r.tail 40 = y at *
  generalize nx r 19 = x at *
  generalize measA r about = a at *
  generalize measBo r = b at *
  have hne : ¬ w.heap.size = g := by omega
  by_cases hm : about + (-12 + x) ≤ 0
  all_goals
    go_enter Try.func22, Try.ntmps22
    go_wp2_with fail
    refine (N1.out _ (ht.alloc _)).mono ?_
    rintro e w1 ⟨rfl, ht1, hg1⟩
    obtain ⟨hc1, hf1⟩ := tcell hg1
    have hl1 : w.heap.size < w1.heap.size := by have := hg1.size; simp at this; omega
    go_wp2_with fail
    refine (N2.out _ ht1).mono ?_
    rintro e w2 ⟨rfl, ht2, hg2⟩
    obtain ⟨hc2, hf2⟩ := tcell hg2
    have hl2 : w.heap.size < w2.heap.size := by have := hg2.size; omega
    go_wp2
    refine bodyPost_ret (v := .agg #[.int .i64 a, .int .i64 b]) ?_ rfl ⟨rfl, (by repeat' (first | with_reducible assumption | with_reducible refine TapeAt.alloc ?_ _ | with_reducible refine TapeAt.drewN ?_ _ | with_reducible refine TapeAt.drew ?_ | with_reducible refine TapeAt.setCell ?_ ?_ _ | with_reducible refine TapeAt.below ?_ (by with_reducible assumption) ?_ | (simp; omega) | omega)), (by repeat' (first | with_reducible exact World.grownBy.refl _ _ | with_reducible refine only_drewN ?_ _ | with_reducible refine only_drew ?_ | with_reducible refine only_alloc ?_ _ | with_reducible refine only_setCell ?_ (Or.inr ?_) _ | with_reducible refine only_trans ?_ (by with_reducible assumption) | with_reducible refine only_below ?_ (by with_reducible assumption) ?_ | (simp; done) | (simp; omega) | omega))⟩
    rw [Ha.out, Hb.out]
    first | rw [show max 0 (about + (-12 + x)) = 0 by omega] | rw [show max 0 (about + (-12 + x)) = about + (-12 + x) by omega]
    simp [results, Try.results22, go_sem, hc2, hc1, hl1, hne]

/-! A right fact: its fields, taken off the tape one after the other. -/
def fD (r : List Int) : Int := nx r 120
def fS (r : List Int) : Int := -1 + nx r.tail 3
def fK (r : List Int) : Int := nx r.tail.tail 5
def fO (r : List Int) : Bool := oneB r.tail.tail.tail 2
/-- The tape behind the due area. -/
def fR (r : List Int) : List Int := if fO r = true then r.tail.tail.tail.tail.tail else r.tail.tail.tail.tail
def fU (r : List Int) : Int := if fO r = true then nx r.tail.tail.tail.tail (fD r + 1) else fD r
def fA (r : List Int) : Int := if fK r = 1 then measA (fR r) (fD r) else 0
def fB (r : List Int) : Int := if fK r = 1 then measBo (fR r) else 0
/-- The tape behind the fact. -/
def fRest (r : List Int) : List Int := if fK r = 1 then (fR r).tail.tail else fR r
def factOf (r : List Int) : Fct := ⟨fD r, fU r, fS r, fK r, fA r, fB r⟩
def Fct.v (f : Fct) : Value := .agg #[.int .i64 f.d, .int .i64 f.u, .int .i64 f.s, .int .i64 f.k, .int .i64 f.a, .int .i64 f.b]

theorem measBo_bd (r : List Int) : 0 ≤ measBo r ∧ measBo r < 40 := nx_bd r.tail 40 (by omega)
theorem measA_bd (r : List Int) (about : Int) (h : 0 ≤ about) : 0 ≤ measA r about ∧ measA r about ≤ about + 6 := by
  have := nx_bd r 19 (by omega)
  unfold measA
  omega
theorem fact_bd (r : List Int) : 0 ≤ fD r ∧ fD r < 120 ∧ -1 ≤ fS r ∧ fS r ≤ 1 ∧ 0 ≤ fK r ∧ fK r ≤ 4 ∧ 0 ≤ fU r ∧ fU r ≤ fD r := by
  have h1 := nx_bd r 120 (by omega)
  have h2 := nx_bd r.tail 3 (by omega)
  have h3 := nx_bd r.tail.tail 5 (by omega)
  have h4 : 0 ≤ fU r ∧ fU r ≤ fD r := by
    unfold fU fD
    split
    · have := nx_bd r.tail.tail.tail.tail (nx r 120 + 1) (by omega)
      omega
    · omega
  unfold fD fS fK at *
  omega
theorem fact_right (r : List Int) (wd : Int) (h1 : 0 ≤ wd) (h2 : wd ≤ 200) : chkOf (factOf r) wd = 0 := by
  obtain ⟨a1, a2, a3, a4, a5, a6, a7, a8⟩ := fact_bd r
  unfold chkOf
  show checkF (fD r) (fU r) (fS r) (fK r) (fA r) (fB r) wd = 0
  refine (checkF_zero _ _ _ _ _ _ _).2 ⟨by omega, by omega, by omega, by omega, ?_, h1, h2⟩
  by_cases hk : fK r = 1
  · rw [if_pos hk, measB_iff]
    unfold fA fB
    rw [if_pos hk, if_pos hk]
    have b1 := measA_bd (fR r) (fD r) a1
    have b2 := measBo_bd (fR r)
    omega
  · rw [if_neg hk]
    unfold fA fB
    rw [if_neg hk, if_neg hk]
    exact ⟨rfl, rfl⟩

set_option maxHeartbeats 2000000 in
theorem fact_any (g : Nat) (r : List Int) (w : World) (ht : TapeAt w g r) :
    Calls Try.prog 10 #[.pointer (some ⟨g, 0, none⟩)] w (TakePost w g (fRest r) (factOf r).v) := by
  have hlt := ht.lt
  obtain ⟨a1, a2, a3, a4, a5, a6, a7, a8⟩ := fact_bd r
  have N1 : Hid (∀ W, TapeAt W g r → Calls Try.prog 11 #[.pointer (some ⟨g, 0, none⟩), .int .i64 120] W (NextPost W g r (fD r))) := fun W h => next_any g r 120 W h (by omega)
  have N2 : Hid (∀ W, TapeAt W g r.tail → Calls Try.prog 20 #[.pointer (some ⟨g, 0, none⟩), .int .i64 (-1), .int .i64 1] W (NextPost W g r.tail (fS r))) := fun W h => range_any g r.tail (-1) 1 W h (by omega) (by omega) (by omega)
  have N3 : Hid (∀ W, TapeAt W g r.tail.tail → Calls Try.prog 11 #[.pointer (some ⟨g, 0, none⟩), .int .i64 5] W (NextPost W g r.tail.tail (fK r))) := fun W h => next_any g r.tail.tail 5 W h (by omega)
  have N4 : Hid (∀ W, TapeAt W g r.tail.tail.tail → Calls Try.prog 21 #[.pointer (some ⟨g, 0, none⟩), .int .i64 2] W (OnePost W g r.tail.tail.tail (fO r))) := fun W h => one_any g r.tail.tail.tail 2 W h (by omega) (by omega)
  have N5 : Hid (∀ W, TapeAt W g r.tail.tail.tail.tail → Calls Try.prog 11 #[.pointer (some ⟨g, 0, none⟩), .int .i64 (fD r + 1)] W (NextPost W g r.tail.tail.tail.tail (nx r.tail.tail.tail.tail (fD r + 1)))) := fun W h => next_any g r.tail.tail.tail.tail _ W h (by omega)
  have N6 : Hid (∀ W, TapeAt W g (fR r) → Calls Try.prog 22 #[.pointer (some ⟨g, 0, none⟩), .int .i64 (fD r)] W (TakePost W g (fR r).tail.tail (.agg #[.int .i64 (measA (fR r) (fD r)), .int .i64 (measBo (fR r))]))) := fun W h => measured_any g (fR r) _ W h (by omega) (by omega)
  have hu : Hid (fU r = if fO r = true then nx r.tail.tail.tail.tail (fD r + 1) else fD r) := rfl
  have hR : Hid (fR r = if fO r = true then r.tail.tail.tail.tail.tail else r.tail.tail.tail.tail) := rfl
  have hA : Hid (fA r = if fK r = 1 then measA (fR r) (fD r) else 0) := rfl
  have hB : Hid (fB r = if fK r = 1 then measBo (fR r) else 0) := rfl
  have hT : Hid (fRest r = if fK r = 1 then (fR r).tail.tail else fR r) := rfl
  have hf : Hid ((factOf r).v = .agg #[.int .i64 (fD r), .int .i64 (fU r), .int .i64 (fS r), .int .i64 (fK r), .int .i64 (fA r), .int .i64 (fB r)]) := rfl
  generalize measA (fR r) (fD r) = ma at *
  generalize measBo (fR r) = mb at *
  generalize nx r.tail.tail.tail.tail (fD r + 1) = xu at *
  generalize (factOf r).v = fv at *
  generalize fRest r = rest at *
  generalize fR r = r5 at *
  generalize fA r = a at *
  generalize fB r = b at *
  generalize fU r = u at *
  generalize fO r = o at *
  generalize fK r = k at *
  generalize fS r = s at *
  generalize fD r = d at *
  have hne : ¬ w.heap.size = g := by omega
  have hk1 : k = 1 ∨ (¬ k = 1 ∧ (k == 1) = false) := by by_cases h : k = 1 <;> simp [h]
  cases o
  all_goals
    rcases hk1 with rfl | ⟨hk1, hk1'⟩
    all_goals
      go_enter Try.func10, Try.ntmps10
      go_wp2_with fail
      refine (N1.out _ (ht.alloc _)).mono ?_
      rintro e w1 ⟨rfl, ht1, hg1⟩
      obtain ⟨hc1, hf1⟩ := tcell hg1
      have hl1 : w.heap.size < w1.heap.size := by have := hg1.size; simp at this; omega
      go_wp2_with fail
      refine (N2.out _ ht1).mono ?_
      rintro e w2 ⟨rfl, ht2, hg2⟩
      obtain ⟨hc2, hf2⟩ := tcell hg2
      have hl2 : w.heap.size < w2.heap.size := by have := hg2.size; omega
      go_wp2_with fail
      refine (N3.out _ ht2).mono ?_
      rintro e w3 ⟨rfl, ht3, hg3⟩
      obtain ⟨hc3, hf3⟩ := tcell hg3
      have hl3 : w.heap.size < w3.heap.size := by have := hg3.size; omega
      have hne3 : ¬ w3.heap.size = g := by omega
      have hne3' : ¬ w3.heap.size = w.heap.size := by omega
      have hne3'' : ¬ w.heap.size = w3.heap.size := by omega
      go_wp2_with (first
        | (go_at_call 21; refine (N4.out _ (by repeat' (first | with_reducible assumption | with_reducible refine TapeAt.alloc ?_ _ | with_reducible refine TapeAt.drewN ?_ _ | with_reducible refine TapeAt.drew ?_ | with_reducible refine TapeAt.setCell ?_ ?_ _ | with_reducible refine TapeAt.below ?_ (by with_reducible assumption) ?_ | (simp; omega) | omega))).mono ?_; rintro e w4 ⟨rfl, ht4, hg4⟩; obtain ⟨hc4, hf4⟩ := tcell hg4; have hl4 : w.heap.size < w4.heap.size := (by have := hg4.size; (try simp at this); omega); have hk4 : w3.heap.size < w4.heap.size := (by have := hg4.size; (try simp at this); omega))
        | (go_at_call 11; refine (N5.out _ (by repeat' (first | with_reducible assumption | with_reducible refine TapeAt.alloc ?_ _ | with_reducible refine TapeAt.drewN ?_ _ | with_reducible refine TapeAt.drew ?_ | with_reducible refine TapeAt.setCell ?_ ?_ _ | with_reducible refine TapeAt.below ?_ (by with_reducible assumption) ?_ | (simp; omega) | omega))).mono ?_; rintro e w5 ⟨rfl, ht5, hg5⟩; obtain ⟨hc5, hf5⟩ := tcell hg5; have hl5 : w.heap.size < w5.heap.size := (by have := hg5.size; (try simp at this); omega); have hk5 : w3.heap.size < w5.heap.size := (by have := hg5.size; (try simp at this); omega))
        | (go_at_call 22; refine (N6.out _ ?_).mono ?_; rw [hR.out]; exact (by repeat' (first | with_reducible assumption | with_reducible refine TapeAt.alloc ?_ _ | with_reducible refine TapeAt.drewN ?_ _ | with_reducible refine TapeAt.drew ?_ | with_reducible refine TapeAt.setCell ?_ ?_ _ | with_reducible refine TapeAt.below ?_ (by with_reducible assumption) ?_ | (simp; omega) | omega)); rintro e w6 ⟨rfl, ht6, hg6⟩; obtain ⟨hc6, hf6⟩ := tcell hg6; have hl6 : w.heap.size < w6.heap.size := (by have := hg6.size; (try simp at this); omega); have hk6 : w3.heap.size < w6.heap.size := (by have := hg6.size; (try simp at this); omega)))
      refine bodyPost_ret (v := fv) ?_ rfl ⟨rfl, ?_, (by repeat' (first | with_reducible exact World.grownBy.refl _ _ | with_reducible refine only_drewN ?_ _ | with_reducible refine only_drew ?_ | with_reducible refine only_alloc ?_ _ | with_reducible refine only_setCell ?_ (Or.inr ?_) _ | with_reducible refine only_trans ?_ (by with_reducible assumption) | with_reducible refine only_below ?_ (by with_reducible assumption) ?_ | (simp; done) | (simp; omega) | omega))⟩
      · rw [hf.out, hu.out, hA.out, hB.out]
        clear N1 N2 N3 N4 N5 N6 ht ht1 ht2 ht3 hg1 hg2 hg3 hR hT hf
        have x0 : w.heap.size < w3.heap.size + 1 := by omega
        simp [results, Try.results10, go_sem, *]
      · rw [hT.out]
        try simp only [if_true, if_false, hk1, hR.out]
        first
          | exact (by repeat' (first | with_reducible assumption | with_reducible refine TapeAt.alloc ?_ _ | with_reducible refine TapeAt.drewN ?_ _ | with_reducible refine TapeAt.drew ?_ | with_reducible refine TapeAt.setCell ?_ ?_ _ | with_reducible refine TapeAt.below ?_ (by with_reducible assumption) ?_ | (simp; omega) | omega))
          | (rw [hR.out]; simp only [if_true, if_false, Bool.false_eq_true]; exact (by repeat' (first | with_reducible assumption | with_reducible refine TapeAt.alloc ?_ _ | with_reducible refine TapeAt.drewN ?_ _ | with_reducible refine TapeAt.drew ?_ | with_reducible refine TapeAt.setCell ?_ ?_ _ | with_reducible refine TapeAt.below ?_ (by with_reducible assumption) ?_ | (simp; omega) | omega)))
end Go.Proofs.Ytepcelekjjalfaa
