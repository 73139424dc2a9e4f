/- How a tape, an order, and a slice of orders, that can be read are opened. -/
import Derived.Test.YtbkfdpdcnjecbaaOq
import Derived.Test.YtbkfdpdcnjecbaaTw
import Derived.Deep.Slices
namespace Go.Proofs.Ytbkfdpdcnjecbaa
open Go.ChangeShapes Go.WideShapes Go.ChangeAt Go.RowKit
set_option linter.unusedVariables false

theorem cInt : Try.prog.cellsOf 3 = 1 := by kernel_rfl
theorem cBytes : Try.prog.cellsOf 26 = 1 := by kernel_rfl
theorem cOrder : Try.prog.cellsOf 32 = 4 := by kernel_rfl
theorem cTape : Try.prog.cellsOf 28 = 2 := by kernel_rfl

theorem order_cells {H : Type} {enc : TypeId × Value → H} {W : World} {base : Nat} {spare : Nat → Bool} {held : Bool} {fuel : Nat} {cs : List Value} {x : DataW H × List MemPlace} (h : DataW.trod enc Try.prog W base spare held fuel 32 cs = some x) : ∃ f : Ord4, cs = f.cells := by
  obtain ⟨xs, n, rfl, _, hlen, hxl, hf⟩ := DataW.trod_struct Try.underlying32 h
  rw [cOrder] at hlen
  match cs, hlen with
  | [c0, c1, c2, c3], _ =>
    match xs, hxl with
    | [x0, x1, x2, x3], _ =>
      have g0 : DataW.trod enc Try.prog W base spare held n 3 [c0] = some x0 := by have := hf 0 _ rfl; simpa [cInt] using this
      have g1 : DataW.trod enc Try.prog W base spare held n 3 [c1] = some x1 := by have := hf 1 _ rfl; simpa [cInt] using this
      have g2 : DataW.trod enc Try.prog W base spare held n 3 [c2] = some x2 := by have := hf 2 _ rfl; simpa [cInt] using this
      have g3 : DataW.trod enc Try.prog W base spare held n 3 [c3] = some x3 := by have := hf 3 _ rfl; simpa [cInt] using this
      obtain ⟨a0, e0, _, _⟩ := DataW.trod_int Try.underlying3 g0
      obtain ⟨a1, e1, _, _⟩ := DataW.trod_int Try.underlying3 g1
      obtain ⟨a2, e2, _, _⟩ := DataW.trod_int Try.underlying3 g2
      obtain ⟨a3, e3, _, _⟩ := DataW.trod_int Try.underlying3 g3
      simp only [List.cons.injEq, and_true] at e0 e1 e2 e3
      exact ⟨⟨a0, a1, a2, a3⟩, by rw [e0, e1, e2, e3]; rfl⟩
theorem open_order {H : Type} {enc : TypeId × Value → H} {W : World} {r : Reach} {base : Nat} {v : Value} {d : DataW H} {p : List MemPlace}
    (hv : Value.okWide Try.prog W r base 32 v) (h : DataW.Trod enc Try.prog W 0 (fun _ => true) true 32 v d p) : ∃ f : Ord4, v = .agg #[.int .i64 f.n, .int .i64 f.f, .int .i64 f.a, .int .i64 f.d] := by
  obtain ⟨cs, rfl, hsz⟩ := okWide_struct Try.underlying32 hv
  obtain ⟨fuel, hf⟩ := h
  obtain ⟨f, hc⟩ := order_cells hf
  refine ⟨f, ?_⟩
  obtain ⟨l⟩ := cs
  have : l = f.cells := by simpa [Value.cells] using hc
  rw [this]
  rfl
theorem gather {P : Nat → Ord4 → Prop} (n : Nat) (h : ∀ i, i < n → ∃ f, P i f) : ∃ L : List Ord4, L.length = n ∧ ∀ i (hi : i < L.length), P i L[i] := by
  induction n with
  | zero => exact ⟨[], rfl, fun i hi => by simp at hi⟩
  | succ n ih =>
    obtain ⟨L, hl, hL⟩ := ih fun i hi => h i (by omega)
    obtain ⟨f, hf⟩ := h n (by omega)
    refine ⟨L ++ [f], by simp [hl], fun i hi => ?_⟩
    by_cases hin : i < L.length
    · rw [List.getElem_append_left hin]; exact hL i hin
    · have : i = n := by simp at hi; omega
      subst this
      rw [List.getElem_append_right (by omega)]
      simpa [hl] using hf
theorem open_orders {H : Type} {enc : TypeId × Value → H} {W : World} {r : Reach} {base : Nat} {v : Value} {d : DataW H} {p : List MemPlace}
    (hv : Value.okWide Try.prog W r base 29 v) (h : DataW.Trod enc Try.prog W 0 (fun _ => true) true 29 v d p) :
    ∃ (A : Option Addr) (n c : Nat) (L : List Ord4), v = .slice A n c ∧ L.length = n ∧ (n ≤ c ∧ c ≤ maxLen) ∧ Lies W A n (ordCells L) := by
  obtain ⟨A, n, c, rfl⟩ := okWide_slice Try.underlying29 hv
  obtain ⟨fuel, hf⟩ := h
  rcases Go.Deep.open_slice Try.underlying29 hf with ⟨hcs, _⟩ | ⟨a, len, cap, m, n', D, Pl, hcs, _, hl, hm, hmm, _, hel⟩
  · simp [Value.cells] at hcs
    obtain ⟨rfl, rfl, rfl⟩ := hcs
    exact ⟨none, 0, 0, [], rfl, rfl, ⟨Nat.le_refl _, Nat.zero_le _⟩, .inl rfl⟩
  · simp [Value.cells] at hcs
    obtain ⟨rfl, rfl, rfl⟩ := hcs
    have hm' : m = c := by simpa using hmm
    subst hm'
    rw [cOrder] at hel
    obtain ⟨L, hL, hP⟩ := gather (P := fun i f => W.cells? 0 (a.add (i * 4)) 4 = some f.cells) n (fun i hi => by
      obtain ⟨cs', hc, ht⟩ := hel i (by omega)
      obtain ⟨f, rfl⟩ := order_cells ht
      exact ⟨f, hc⟩)
    refine ⟨some a, n, m, L, rfl, hL, ⟨hl, hm⟩, ?_⟩
    by_cases h0 : n = 0
    · exact .inl h0
    · obtain ⟨b, off, spot⟩ := a
      have hc0 := hP 0 (by omega)
      obtain ⟨_, _, hat0⟩ := World.cells?_some hc0
      have hc00 := hat0 0 (by decide)
      have hspot : spot = none := by simpa [Addr.add] using World.cell?_spot (hc00.trans rfl)
      subst hspot
      have hb := World.block_lt_of_cell? W _ (hc00.trans rfl)
      rw [add_none, add_none] at hb
      refine .inr ⟨b, off, rfl, hb, fun j u hu => ?_⟩
      have hj : j < L.length * 4 := by
        rcases Nat.lt_or_ge j (ordCells L).length with h | h
        · rw [ordCells_len] at h; exact h
        · rw [List.getElem?_eq_none h] at hu; cases hu
      have hi : j / 4 < L.length := by omega
      obtain ⟨_, _, hat⟩ := World.cells?_some (hP (j / 4) hi)
      have hx := hat (j % 4) (by omega)
      rw [add_none, add_none] at hx
      have ej : off + j / 4 * 4 + j % 4 = off + j := by omega
      rw [ej] at hx
      rw [hx, ← hu]
      obtain ⟨i0, i1, i2, i3⟩ := ordCells_at L (j / 4) hi
      have ej' : (ordCells L)[j]? = (ordCells L)[j / 4 * 4 + j % 4]? := congrArg (fun z => (ordCells L)[z]?) (by omega)
      rw [ej']
      rcases (show j % 4 = 0 ∨ j % 4 = 1 ∨ j % 4 = 2 ∨ j % 4 = 3 by omega) with e | e | e | e
      · rw [e]; exact i0.symm
      · rw [e]; exact i1.symm
      · rw [e]; exact i2.symm
      · rw [e]; exact i3.symm
/-- A tape's two slices of bytes. -/
theorem bytes_cells {H : Type} {enc : TypeId × Value → H} {W : World} {fuel : Nat} {v : Value} {x : DataW H × List MemPlace} (h : DataW.trod enc Try.prog W 0 (fun _ => true) true fuel 26 [v] = some x) :
    ∃ (A : Option Addr) (n c : Nat) (zs : List Int), v = .slice A n c ∧ Sl8 W A n c zs := by
  rcases open_ints Try.underlying26 Try.underlying5 (by kernel_rfl) h with ⟨hcs, _⟩ | ⟨x, l, c', zs, hcs, _, hl, hm, hz, _, hcell, hwz⟩
  · injection hcs with hcs
    exact ⟨none, 0, 0, [], hcs, Sl8.nil_ _⟩
  · injection hcs with hcs
    have hz' : zs.length = c' := by simpa using hz
    refine ⟨some x, l, c', zs.take l, hcs, by rw [List.length_take]; omega, hl, hm, fun z hz => ?_, ?_⟩
    · exact bounds_u8 (hwz z (List.mem_of_mem_take hz))
    · by_cases h0 : l = 0
      · exact .inl h0
      · obtain ⟨b, off, spot⟩ := x
        have hc0 := hcell 0 (by omega)
        have hspot : spot = none := by simpa [Addr.add] using World.cell?_spot hc0
        subst hspot
        have hb := World.block_lt_of_cell? W _ hc0
        rw [add_none] at hb
        refine .inr ⟨b, off, rfl, hb, fun j u hu => ?_⟩
        have hj : j < l := by
          rcases Nat.lt_or_ge j l with h | h
          · exact h
          · rw [List.getElem?_eq_none (by simp; omega)] at hu; cases hu
        have := hcell j (by omega)
        rw [add_none] at this
        rw [this]
        rw [List.getElem?_map, List.getElem?_take, if_pos hj] at hu
        rw [List.getElem?_eq_getElem (by omega)] at hu
        rw [List.getD_eq_getElem?_getD, List.getElem?_eq_getElem (by omega)]
        simpa using hu
theorem open_tape {H : Type} {enc : TypeId × Value → H} {W : World} {r : Reach} {base : Nat} {v : Value} {d : DataW H} {p : List MemPlace}
    (hv : Value.okWide Try.prog W r base 28 v) (h : DataW.Trod enc Try.prog W 0 (fun _ => true) true 28 v d p) :
    ∃ (A : Option Addr) (n c : Nat) (zs : List Int) (B : Option Addr) (m e : Nat) (us : List Int), v = .agg #[.slice A n c, .slice B m e] ∧ Sl8 W A n c zs ∧ Sl8 W B m e us := by
  obtain ⟨cs, rfl, hsz⟩ := okWide_struct Try.underlying28 hv
  obtain ⟨fuel, hf⟩ := h
  obtain ⟨xs, n, rfl, _, hlen, hxl, hf⟩ := DataW.trod_struct Try.underlying28 hf
  rw [cTape] at hlen
  obtain ⟨l⟩ := cs
  match l, hlen with
  | [c0, c1], _ =>
    match xs, hxl with
    | [x0, x1], _ =>
      have g0 : DataW.trod enc Try.prog W 0 (fun _ => true) true n 26 [c0] = some x0 := by have := hf 0 _ rfl; simpa [cBytes, Value.cells] using this
      have g1 : DataW.trod enc Try.prog W 0 (fun _ => true) true n 26 [c1] = some x1 := by have := hf 1 _ rfl; simpa [cBytes, Value.cells] using this
      obtain ⟨A, n, c, zs, rfl, h1⟩ := bytes_cells g0
      obtain ⟨B, m, e, us, rfl, h2⟩ := bytes_cells g1
      exact ⟨A, n, c, zs, B, m, e, us, rfl, h1, h2⟩
end Go.Proofs.Ytbkfdpdcnjecbaa
