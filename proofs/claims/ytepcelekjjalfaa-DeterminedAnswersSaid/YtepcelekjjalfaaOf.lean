/- How a fact, and a slice of facts, that can be read is opened. -/
import Derived.Test.YtepcelekjjalfaaOp
import Derived.Test.YtepcelekjjalfaaSm
import Derived.Deep.Slices
namespace Go.Proofs.Ytepcelekjjalfaa
open Go.ChangeShapes Go.WideShapes Go.ChangeAt Go.RowKit
set_option linter.unusedVariables false

theorem cInt : Try.prog.cellsOf 3 = 1 := by kernel_rfl
theorem cMeas : Try.prog.cellsOf 24 = 2 := by kernel_rfl
theorem cSeen : Try.prog.cellsOf 26 = 3 := by kernel_rfl
theorem cFact : Try.prog.cellsOf 28 = 6 := by kernel_rfl

theorem fact_cells {H : Type} {enc : TypeId × Value → H} {W : World} {base : Nat} {spare : Nat → Bool} {held : Bool} {fuel : Nat} {cs : List Value} {x : DataW H × List MemPlace} (h : DataW.trod enc Try.prog W base spare held fuel 28 cs = some x) : ∃ f : Fct, cs = f.cells := by
  obtain ⟨xs, n, rfl, _, hlen, hxl, hf⟩ := DataW.trod_struct Try.underlying28 h
  rw [cFact] at hlen
  match cs, hlen with
  | [c0, c1, c2, c3, c4, c5], _ =>
    match xs, hxl with
    | [x0, x1, x2, x3], _ =>
      have g0 : DataW.trod enc Try.prog W base spare held n 3 [c0] = some x0 := by have := hf 0 _ rfl; simpa [cInt] using this
      have g1 : DataW.trod enc Try.prog W base spare held n 3 [c1] = some x1 := by have := hf 1 _ rfl; simpa [cInt] using this
      have g2 : DataW.trod enc Try.prog W base spare held n 3 [c2] = some x2 := by have := hf 2 _ rfl; simpa [cInt] using this
      have g3 : DataW.trod enc Try.prog W base spare held n 26 [c3, c4, c5] = some x3 := by have := hf 3 _ rfl; simpa [cSeen] using this
      obtain ⟨a0, e0, _, _⟩ := DataW.trod_int Try.underlying3 g0
      obtain ⟨a1, e1, _, _⟩ := DataW.trod_int Try.underlying3 g1
      obtain ⟨a2, e2, _, _⟩ := DataW.trod_int Try.underlying3 g2
      obtain ⟨ys, n', rfl, _, _, hyl, hf'⟩ := DataW.trod_struct Try.underlying26 g3
      match ys, hyl with
      | [y0, y1], _ =>
        have k0 : DataW.trod enc Try.prog W base spare held n' 3 [c3] = some y0 := by have := hf' 0 _ rfl; simpa [cInt] using this
        have k1 : DataW.trod enc Try.prog W base spare held n' 24 [c4, c5] = some y1 := by have := hf' 1 _ rfl; simpa [cMeas] using this
        obtain ⟨a3, e3, _, _⟩ := DataW.trod_int Try.underlying3 k0
        obtain ⟨zs, n'', rfl, _, _, hzl, hf''⟩ := DataW.trod_struct Try.underlying24 k1
        match zs, hzl with
        | [z0, z1], _ =>
          have l0 : DataW.trod enc Try.prog W base spare held n'' 3 [c4] = some z0 := by have := hf'' 0 _ rfl; simpa [cInt] using this
          have l1 : DataW.trod enc Try.prog W base spare held n'' 3 [c5] = some z1 := by have := hf'' 1 _ rfl; simpa [cInt] using this
          obtain ⟨a4, e4, _, _⟩ := DataW.trod_int Try.underlying3 l0
          obtain ⟨a5, e5, _, _⟩ := DataW.trod_int Try.underlying3 l1
          simp only [List.cons.injEq, and_true] at e0 e1 e2 e3 e4 e5
          exact ⟨⟨a0, a1, a2, a3, a4, a5⟩, by rw [e0, e1, e2, e3, e4, e5]; rfl⟩

theorem open_fact {H : Type} {enc : TypeId × Value → H} {W : World} {r : Reach} {base : Nat} {v : Value} {d : DataW H} {p : List MemPlace}
    (hv : Value.okWide Try.prog W r base 28 v) (h : DataW.Trod enc Try.prog W 0 (fun _ => true) true 28 v d p) : ∃ f : Fct, v = .agg #[.int .i64 f.d, .int .i64 f.u, .int .i64 f.s, .int .i64 f.k, .int .i64 f.a, .int .i64 f.b] := by
  obtain ⟨cs, rfl, hsz⟩ := okWide_struct Try.underlying28 hv
  obtain ⟨fuel, hf⟩ := h
  obtain ⟨f, hc⟩ := fact_cells hf
  refine ⟨f, ?_⟩
  obtain ⟨l⟩ := cs
  have : l = f.cells := by simpa [Value.cells] using hc
  rw [this]
  rfl

/-- All elements, one after the other. -/
theorem gather {P : Nat → Fct → Prop} (n : Nat) (h : ∀ i, i < n → ∃ f, P i f) : ∃ L : List Fct, L.length = n ∧ ∀ i (hi : i < L.length), P i L[i] := by
  induction n with
  | zero => exact ⟨[], rfl, fun i hi => by simp at hi⟩
  | succ n ih =>
    obtain ⟨L, hl, hL⟩ := ih fun i hi => h i (by omega)
    obtain ⟨f, hf⟩ := h n (by omega)
    refine ⟨L ++ [f], by simp [hl], fun i hi => ?_⟩
    by_cases hin : i < L.length
    · rw [List.getElem_append_left hin]; exact hL i hin
    · have : i = n := by simp at hi; omega
      subst this
      rw [List.getElem_append_right (by omega)]
      simpa [hl] using hf

theorem open_facts {H : Type} {enc : TypeId × Value → H} {W : World} {r : Reach} {base : Nat} {v : Value} {d : DataW H} {p : List MemPlace}
    (hv : Value.okWide Try.prog W r base 29 v) (h : DataW.Trod enc Try.prog W 0 (fun _ => true) true 29 v d p) :
    ∃ (A : Option Addr) (n c : Nat) (L : List Fct), v = .slice A n c ∧ L.length = n ∧ (n ≤ c ∧ c ≤ maxLen) ∧ Lies W A n (factCells L) := by
  obtain ⟨A, n, c, rfl⟩ := okWide_slice Try.underlying29 hv
  obtain ⟨fuel, hf⟩ := h
  rcases Go.Deep.open_slice Try.underlying29 hf with ⟨hcs, _⟩ | ⟨a, len, cap, m, n', D, Pl, hcs, _, hl, hm, hmm, _, hel⟩
  · simp [Value.cells] at hcs
    obtain ⟨rfl, rfl, rfl⟩ := hcs
    exact ⟨none, 0, 0, [], rfl, rfl, ⟨Nat.le_refl _, Nat.zero_le _⟩, .inl rfl⟩
  · simp [Value.cells] at hcs
    obtain ⟨rfl, rfl, rfl⟩ := hcs
    have hm' : m = c := by simpa using hmm
    subst hm'
    rw [cFact] at hel
    obtain ⟨L, hL, hP⟩ := gather (P := fun i f => W.cells? 0 (a.add (i * 6)) 6 = some f.cells) n (fun i hi => by
      obtain ⟨cs', hc, ht⟩ := hel i (by omega)
      obtain ⟨f, rfl⟩ := fact_cells ht
      exact ⟨f, hc⟩)
    refine ⟨some a, n, m, L, rfl, hL, ⟨hl, hm⟩, ?_⟩
    by_cases h0 : n = 0
    · exact .inl h0
    · obtain ⟨b, off, spot⟩ := a
      have hc0 := hP 0 (by omega)
      obtain ⟨_, _, hat0⟩ := World.cells?_some hc0
      have hc00 := hat0 0 (by decide)
      have hspot : spot = none := by simpa [Addr.add] using World.cell?_spot (hc00.trans rfl)
      subst hspot
      have hb := World.block_lt_of_cell? W _ (hc00.trans rfl)
      rw [add_none, add_none] at hb
      refine .inr ⟨b, off, rfl, hb, fun j u hu => ?_⟩
      have hj : j < L.length * 6 := by
        rcases Nat.lt_or_ge j (factCells L).length with h | h
        · rw [factCells_len] at h; exact h
        · rw [List.getElem?_eq_none h] at hu; cases hu
      have hi : j / 6 < L.length := by omega
      obtain ⟨_, _, hat⟩ := World.cells?_some (hP (j / 6) hi)
      have hx := hat (j % 6) (by omega)
      rw [add_none, add_none] at hx
      have ej : off + j / 6 * 6 + j % 6 = off + j := by omega
      rw [ej] at hx
      rw [hx, ← hu]
      obtain ⟨i0, i1, i2, i3, i4, i5⟩ := factCells_at L (j / 6) hi
      have ej' : (factCells L)[j]? = (factCells L)[j / 6 * 6 + j % 6]? := congrArg (fun z => (factCells L)[z]?) (by omega)
      rw [ej']
      rcases (show j % 6 = 0 ∨ j % 6 = 1 ∨ j % 6 = 2 ∨ j % 6 = 3 ∨ j % 6 = 4 ∨ j % 6 = 5 by omega) with e | e | e | e | e | e
      · rw [e]; exact i0.symm
      · rw [e]; exact i1.symm
      · rw [e]; exact i2.symm
      · rw [e]; exact i3.symm
      · rw [e]; exact i4.symm
      · rw [e]; exact i5.symm
end Go.Proofs.Ytepcelekjjalfaa
