/- How rectangles and regions that can be read are opened. -/
import Derived.Test.YtglanlpjoaholaaGreatOq
import Derived.Test.YtglanlpjoaholaaGreatH1
import Derived.Deep.Slices
namespace Go.Proofs.YtglanlpjoaholaaGreat
open Go.ChangeShapes Go.WideShapes Go.ChangeAt Go.RowKit
set_option linter.unusedVariables false

theorem cInt : Tryz.prog.cellsOf 3 = 1 := by kernel_rfl
theorem cRect : Tryz.prog.cellsOf 64 = 4 := by kernel_rfl
theorem cRects : Tryz.prog.cellsOf 31 = 1 := by kernel_rfl
theorem cRegion : Tryz.prog.cellsOf 33 = 1 := by kernel_rfl

set_option maxRecDepth 100000 in
theorem rect_cells {H : Type} {enc : TypeId × Value → H} {W : World} {base : Nat} {spare : Nat → Bool} {held : Bool} {fuel : Nat} {cs : List Value} {x : DataW H × List MemPlace} (h : DataW.trod enc Tryz.prog W base spare held fuel 64 cs = some x) : ∃ f : R4, cs = f.cells := by
  obtain ⟨xs, n, rfl, _, hlen, hxl, hf⟩ := DataW.trod_struct Tryz.underlying64 h
  rw [cRect] at hlen
  match cs, hlen with
  | [c0, c1, c2, c3], _ =>
    match xs, hxl with
    | [x0, x1, x2, x3], _ =>
      have g0 : DataW.trod enc Tryz.prog W base spare held n 3 [c0] = some x0 := by have := hf 0 _ rfl; simpa [cInt] using this
      have g1 : DataW.trod enc Tryz.prog W base spare held n 3 [c1] = some x1 := by have := hf 1 _ rfl; simpa [cInt] using this
      have g2 : DataW.trod enc Tryz.prog W base spare held n 3 [c2] = some x2 := by have := hf 2 _ rfl; simpa [cInt] using this
      have g3 : DataW.trod enc Tryz.prog W base spare held n 3 [c3] = some x3 := by have := hf 3 _ rfl; simpa [cInt] using this
      obtain ⟨a0, e0, _, _⟩ := DataW.trod_int Tryz.underlying3 g0
      obtain ⟨a1, e1, _, _⟩ := DataW.trod_int Tryz.underlying3 g1
      obtain ⟨a2, e2, _, _⟩ := DataW.trod_int Tryz.underlying3 g2
      obtain ⟨a3, e3, _, _⟩ := DataW.trod_int Tryz.underlying3 g3
      simp only [List.cons.injEq, and_true] at e0 e1 e2 e3
      exact ⟨⟨a0, a1, a2, a3⟩, by rw [e0, e1, e2, e3]; rfl⟩
theorem gatherL {α : Type} {P : Nat → α → Prop} (n : Nat) (h : ∀ i, i < n → ∃ f, P i f) : ∃ L : List α, L.length = n ∧ ∀ i (hi : i < L.length), P i L[i] := by
  induction n with
  | zero => exact ⟨[], rfl, fun i hi => by simp at hi⟩
  | succ n ih =>
    obtain ⟨L, hl, hL⟩ := ih fun i hi => h i (by omega)
    obtain ⟨f, hf⟩ := h n (by omega)
    refine ⟨L ++ [f], by simp [hl], fun i hi => ?_⟩
    by_cases hin : i < L.length
    · rw [List.getElem_append_left hin]; exact hL i hin
    · have : i = n := by simp at hi; omega
      subst this
      rw [List.getElem_append_right (by omega)]
      simpa [hl] using hf
set_option maxRecDepth 100000 in
theorem rects_cells {H : Type} {enc : TypeId × Value → H} {W : World} {fuel : Nat} {v : Value} {x : DataW H × List MemPlace} {held : Bool} (h : DataW.trod enc Tryz.prog W 0 (fun _ => true) held fuel 31 [v] = some x) :
    ∃ (A : Option Addr) (c : Nat) (L : List R4), v = .slice A L.length c ∧ SlR W A L.length c L := by
  rcases Go.Deep.open_slice Tryz.underlying31 h with ⟨hcs, _⟩ | ⟨a, len, cap, m, n', D, Pl, hcs, _, hl, hm, hmm, _, hel⟩
  · injection hcs with hcs
    exact ⟨none, 0, [], hcs, SlR.nil W⟩
  · injection hcs with hcs
    have hm' : m = cap := by simpa using hmm
    subst hm'
    rw [cRect] at hel
    obtain ⟨L, hL, hP⟩ := gatherL (P := fun i (f : R4) => W.cells? 0 (a.add (i * 4)) 4 = some f.cells) len (fun i hi => by
      obtain ⟨cs', hc, ht⟩ := hel i (by omega)
      obtain ⟨f, rfl⟩ := rect_cells ht
      exact ⟨f, hc⟩)
    subst hL
    refine ⟨some a, m, L, hcs, rfl, hl, hm, ?_⟩
    by_cases h0 : L.length = 0
    · exact .inl h0
    · obtain ⟨b, off, spot⟩ := a
      have hc0 := hP 0 (by omega)
      obtain ⟨_, _, hat0⟩ := World.cells?_some hc0
      have hc00 := hat0 0 (by decide)
      have hspot : spot = none := by simpa [Addr.add] using World.cell?_spot (hc00.trans rfl)
      subst hspot
      have hb := World.block_lt_of_cell? W _ (hc00.trans rfl)
      rw [add_none, add_none] at hb
      refine .inr ⟨b, off, rfl, hb, fun j u hu => ?_⟩
      have hj : j < L.length * 4 := by
        rcases Nat.lt_or_ge j (rCells L).length with h | h
        · rw [rCells_len] at h; exact h
        · rw [List.getElem?_eq_none h] at hu; cases hu
      have hi : j / 4 < L.length := by omega
      obtain ⟨_, _, hat⟩ := World.cells?_some (hP (j / 4) hi)
      have hx := hat (j % 4) (by omega)
      rw [add_none, add_none] at hx
      have ej : off + j / 4 * 4 + j % 4 = off + j := by omega
      rw [ej] at hx
      rw [hx, ← hu]
      obtain ⟨i0, i1, i2, i3⟩ := rCells_at L (j / 4) hi
      have ej' : (rCells L)[j]? = (rCells L)[j / 4 * 4 + j % 4]? := congrArg (fun z => (rCells L)[z]?) (by omega)
      rw [ej']
      rcases (show j % 4 = 0 ∨ j % 4 = 1 ∨ j % 4 = 2 ∨ j % 4 = 3 by omega) with e | e | e | e
      · rw [e]; exact i0.symm
      · rw [e]; exact i1.symm
      · rw [e]; exact i2.symm
      · rw [e]; exact i3.symm
set_option maxRecDepth 100000 in
theorem region_cells {H : Type} {enc : TypeId × Value → H} {W : World} {fuel : Nat} {cs : List Value} {x : DataW H × List MemPlace} {held : Bool} (h : DataW.trod enc Tryz.prog W 0 (fun _ => true) held fuel 33 cs = some x) :
    ∃ (A : Option Addr) (c : Nat) (L : List R4), cs = [.slice A L.length c] ∧ SlR W A L.length c L := by
  obtain ⟨xs, n, rfl, _, hlen, hxl, hf⟩ := DataW.trod_struct Tryz.underlying33 h
  rw [cRegion] at hlen
  match cs, hlen with
  | [c0], _ =>
    match xs, hxl with
    | [x0], _ =>
      have g0 : DataW.trod enc Tryz.prog W 0 (fun _ => true) held n 31 [c0] = some x0 := by have := hf 0 _ rfl; simpa [cRects] using this
      obtain ⟨A, c, L, rfl, hS⟩ := rects_cells g0
      exact ⟨A, c, L, rfl, hS⟩
set_option maxRecDepth 100000 in
theorem open_region {H : Type} {enc : TypeId × Value → H} {W : World} {r : Reach} {base : Nat} {v : Value} {d : DataW H} {p : List MemPlace}
    (hv : Value.okWide Tryz.prog W r base 33 v) (h : DataW.Trod enc Tryz.prog W 0 (fun _ => true) true 33 v d p) :
    ∃ (A : Option Addr) (c : Nat) (L : List R4), v = .agg #[.slice A L.length c] ∧ SlR W A L.length c L := by
  obtain ⟨cs, rfl, hsz⟩ := okWide_struct Tryz.underlying33 hv
  obtain ⟨fuel, hf⟩ := h
  obtain ⟨A, c, L, hc, hS⟩ := region_cells hf
  refine ⟨A, c, L, ?_, hS⟩
  obtain ⟨l⟩ := cs
  have : l = [.slice A L.length c] := by simpa [Value.cells] using hc
  rw [this]
end Go.Proofs.YtglanlpjoaholaaGreat
