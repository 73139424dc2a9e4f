/- How plans, units and lists of units that can be read are opened. -/
import Derived.Test.YtjmbdfoegnfpnaaOq
import Derived.Test.YtjmbdfoegnfpnaaK3
import Derived.Deep.Slices
namespace Go.Proofs.Ytjmbdfoegnfpnaa
open Go.ChangeShapes Go.WideShapes Go.ChangeAt Go.RowKit
set_option linter.unusedVariables false

theorem cInt : Try.prog.cellsOf 3 = 1 := by kernel_rfl
theorem cInts : Try.prog.cellsOf 22 = 1 := by kernel_rfl
theorem cUnit : Try.prog.cellsOf 27 = 2 := by kernel_rfl
theorem cPlan : Try.prog.cellsOf 24 = 5 := by kernel_rfl

theorem sl_fn {W : World} {x : Addr} {l cap : Nat} (V : Nat → Value) (hl : l ≤ cap) (hm : cap ≤ maxLen) (hcell : ∀ i, i < cap → W.cell? (x.add i) = some (V i)) : Sl W (some x) cap ((List.range l).map V) := by
  refine ⟨by simpa using hl, hm, ?_⟩
  rw [List.length_map, List.length_range]
  by_cases h0 : l = 0
  · exact .inl h0
  · obtain ⟨b, off, spot⟩ := x
    have hc0 := hcell 0 (by omega)
    have hspot : spot = none := by simpa [Addr.add] using World.cell?_spot hc0
    subst hspot
    have hb := World.block_lt_of_cell? W _ hc0
    rw [add_none] at hb
    refine .inr ⟨b, off, rfl, hb, fun j u hu => ?_⟩
    have hj : j < l := by
      rcases Nat.lt_or_ge j l with h | h
      · exact h
      · rw [List.getElem?_eq_none (by simp; omega)] at hu; cases hu
    have := hcell j (by omega)
    rw [add_none] at this
    rw [this]
    simpa [hj] using hu
theorem int_cells {H : Type} {enc : TypeId × Value → H} {W : World} {fuel : Nat} {v : Value} {x : DataW H × List MemPlace} {held : Bool} (h : DataW.trod enc Try.prog W 0 (fun _ => true) held fuel 22 [v] = some x) :
    ∃ (A : Option Addr) (c : Nat) (zs : List Int), v = .slice A zs.length c ∧ Sl W A c (zs.map (.int .i64)) := by
  rcases open_ints Try.underlying22 Try.underlying3 (by kernel_rfl) h with ⟨hcs, _⟩ | ⟨x, l, c', zs, hcs, _, hl, hm, hz, _, hcell, hwz⟩
  · injection hcs with hcs
    exact ⟨none, 0, [], hcs, Nat.le_refl _, Nat.zero_le _, .inl rfl⟩
  · injection hcs with hcs
    have hz' : zs.length = c' := by simpa using hz
    refine ⟨some x, c', (List.range l).map fun i => zs.getD i 0, by rw [hcs]; simp, ?_⟩
    rw [List.map_map]
    exact sl_fn _ hl hm (fun i hi => hcell i (by omega))
set_option maxRecDepth 100000 in
theorem unit_cells {H : Type} {enc : TypeId × Value → H} {W : World} {held : Bool} {fuel : Nat} {cs : List Value} {x : DataW H × List MemPlace} (h : DataW.trod enc Try.prog W 0 (fun _ => true) held fuel 27 cs = some x) :
    ∃ f : Un × UV, cs = [.int .i64 f.1.fm, .slice f.2.a f.1.fs.length f.2.c] ∧ Sl W f.2.a f.2.c (f.1.fs.map (.int .i64)) := by
  obtain ⟨xs, n, rfl, _, hlen, hxl, hf⟩ := DataW.trod_struct Try.underlying27 h
  rw [cUnit] at hlen
  match cs, hlen with
  | [c0, c1], _ =>
    match xs, hxl with
    | [x0, x1], _ =>
      have g0 : DataW.trod enc Try.prog W 0 (fun _ => true) held n 3 [c0] = some x0 := by have := hf 0 _ rfl; simpa [cInt] using this
      have g1 : DataW.trod enc Try.prog W 0 (fun _ => true) held n 22 [c1] = some x1 := by have := hf 1 _ rfl; simpa [cInts] using this
      obtain ⟨a0, e0, _, _⟩ := DataW.trod_int Try.underlying3 g0
      obtain ⟨A, c, zs, rfl, hS⟩ := int_cells g1
      simp only [List.cons.injEq, and_true] at e0
      exact ⟨(⟨a0, zs⟩, ⟨A, c⟩), by rw [e0], hS⟩
theorem gatherL {α : Type} {P : Nat → α → Prop} (n : Nat) (h : ∀ i, i < n → ∃ f, P i f) : ∃ L : List α, L.length = n ∧ ∀ i (hi : i < L.length), P i L[i] := by
  induction n with
  | zero => exact ⟨[], rfl, fun i hi => by simp at hi⟩
  | succ n ih =>
    obtain ⟨L, hl, hL⟩ := ih fun i hi => h i (by omega)
    obtain ⟨f, hf⟩ := h n (by omega)
    refine ⟨L ++ [f], by simp [hl], fun i hi => ?_⟩
    by_cases hin : i < L.length
    · rw [List.getElem_append_left hin]; exact hL i hin
    · have : i = n := by simp at hi; omega
      subst this
      rw [List.getElem_append_right (by omega)]
      simpa [hl] using hf
set_option maxRecDepth 100000 in
theorem units_cells {H : Type} {enc : TypeId × Value → H} {W : World} {fuel : Nat} {v : Value} {x : DataW H × List MemPlace} {held : Bool} (h : DataW.trod enc Try.prog W 0 (fun _ => true) held fuel 25 [v] = some x) :
    ∃ (A : Option Addr) (c : Nat) (L : List (Un × UV)), v = .slice A L.length c ∧ SlU W A L.length c L := by
  rcases Go.Deep.open_slice Try.underlying25 h with ⟨hcs, _⟩ | ⟨a, len, cap, m, n', D, Pl, hcs, _, hl, hm, hmm, _, hel⟩
  · injection hcs with hcs
    exact ⟨none, 0, [], hcs, rfl, Nat.le_refl _, Nat.zero_le _, .inl rfl, fun x hx => by cases hx⟩
  · injection hcs with hcs
    have hm' : m = cap := by simpa using hmm
    subst hm'
    rw [cUnit] at hel
    obtain ⟨L, hL, hP⟩ := gatherL (P := fun i (f : Un × UV) => W.cells? 0 (a.add (i * 2)) 2 = some [.int .i64 f.1.fm, .slice f.2.a f.1.fs.length f.2.c] ∧ Sl W f.2.a f.2.c (f.1.fs.map (.int .i64))) len (fun i hi => by
      obtain ⟨cs', hc, ht⟩ := hel i (by omega)
      obtain ⟨f, rfl, hS⟩ := unit_cells ht
      exact ⟨f, hc, hS⟩)
    subst hL
    have hfits : ∀ x ∈ L, Sl W x.2.a x.2.c (x.1.fs.map (.int .i64)) := by
      intro x hx
      obtain ⟨i, hi, rfl⟩ := List.getElem_of_mem hx
      exact (hP i hi).2
    refine ⟨some a, m, L, hcs, rfl, hl, hm, ?_, hfits⟩
    by_cases h0 : L.length = 0
    · exact .inl h0
    · obtain ⟨b, off, spot⟩ := a
      have hc0 := (hP 0 (by omega)).1
      obtain ⟨_, _, hat0⟩ := World.cells?_some hc0
      have hc00 := hat0 0 (by decide)
      have hspot : spot = none := by simpa [Addr.add] using World.cell?_spot (hc00.trans rfl)
      subst hspot
      have hb := World.block_lt_of_cell? W _ (hc00.trans rfl)
      rw [add_none, add_none] at hb
      refine .inr ⟨b, off, rfl, hb, fun j u hu => ?_⟩
      have hj : j < L.length * 2 := by
        rcases Nat.lt_or_ge j (uCells L).length with h | h
        · rw [uCells_len] at h; exact h
        · rw [List.getElem?_eq_none h] at hu; cases hu
      have hi : j / 2 < L.length := by omega
      obtain ⟨_, _, hat⟩ := World.cells?_some (hP (j / 2) hi).1
      have hx := hat (j % 2) (by omega)
      rw [add_none, add_none] at hx
      have ej : off + j / 2 * 2 + j % 2 = off + j := by omega
      rw [ej] at hx
      rw [hx, ← hu]
      obtain ⟨i0, i1⟩ := uCells_at L (j / 2) hi
      have ej' : (uCells L)[j]? = (uCells L)[j / 2 * 2 + j % 2]? := congrArg (fun z => (uCells L)[z]?) (by omega)
      rw [ej']
      rcases (show j % 2 = 0 ∨ j % 2 = 1 by omega) with e | e
      · rw [e]; exact i0.symm
      · rw [e]; exact i1.symm
set_option maxRecDepth 100000 in
theorem open_units {H : Type} {enc : TypeId × Value → H} {W : World} {r : Reach} {base : Nat} {v : Value} {d : DataW H} {p : List MemPlace}
    (hv : Value.okWide Try.prog W r base 25 v) (h : DataW.Trod enc Try.prog W 0 (fun _ => true) true 25 v d p) : ∃ (A : Option Addr) (c : Nat) (L : List (Un × UV)), v = .slice A L.length c ∧ SlU W A L.length c L := by
  obtain ⟨A, n, c, rfl⟩ := okWide_slice Try.underlying25 hv
  obtain ⟨fuel, hf⟩ := h
  exact units_cells hf
set_option maxRecDepth 100000 in
theorem open_plan {H : Type} {enc : TypeId × Value → H} {W : World} {r : Reach} {base : Nat} {v : Value} {d : DataW H} {p : List MemPlace}
    (hv : Value.okWide Try.prog W r base 24 v) (h : DataW.Trod enc Try.prog W 0 (fun _ => true) true 24 v d p) :
    ∃ (p : PlV) (q : Pl), v = .agg #[.slice p.a1 q.ws.length p.c1, .slice p.a2 q.ls.length p.c2, .slice p.a3 q.ss.length p.c3, .int .i64 q.le, .int .i64 q.ra] ∧ PlAt W p q := by
  obtain ⟨cs, rfl, hsz⟩ := okWide_struct Try.underlying24 hv
  obtain ⟨fuel, hf⟩ := h
  obtain ⟨xs, n, rfl, _, hlen, hxl, hf⟩ := DataW.trod_struct Try.underlying24 hf
  rw [cPlan] at hlen
  obtain ⟨l⟩ := cs
  match l, hlen with
  | [c0, c1, c2, c3, c4], _ =>
    match xs, hxl with
    | [x0, x1, x2, x3, x4], _ =>
      have g0 : DataW.trod enc Try.prog W 0 (fun _ => true) true n 22 [c0] = some x0 := by have := hf 0 _ rfl; simpa [cInt, cInts, Value.cells] using this
      have g1 : DataW.trod enc Try.prog W 0 (fun _ => true) true n 22 [c1] = some x1 := by have := hf 1 _ rfl; simpa [cInt, cInts, Value.cells] using this
      have g2 : DataW.trod enc Try.prog W 0 (fun _ => true) true n 22 [c2] = some x2 := by have := hf 2 _ rfl; simpa [cInt, cInts, Value.cells] using this
      have g3 : DataW.trod enc Try.prog W 0 (fun _ => true) true n 3 [c3] = some x3 := by have := hf 3 _ rfl; simpa [cInt, cInts, Value.cells] using this
      have g4 : DataW.trod enc Try.prog W 0 (fun _ => true) true n 3 [c4] = some x4 := by have := hf 4 _ rfl; simpa [cInt, cInts, Value.cells] using this
      obtain ⟨A1, k1, z1, rfl, s1⟩ := int_cells g0
      obtain ⟨A2, k2, z2, rfl, s2⟩ := int_cells g1
      obtain ⟨A3, k3, z3, rfl, s3⟩ := int_cells g2
      obtain ⟨a3, e3, _, _⟩ := DataW.trod_int Try.underlying3 g3
      obtain ⟨a4, e4, _, _⟩ := DataW.trod_int Try.underlying3 g4
      simp only [List.cons.injEq, and_true] at e3 e4
      subst e3 e4
      exact ⟨⟨A1, k1, A2, k2, A3, k3⟩, ⟨z1, z2, z3, a3, a4⟩, rfl, s1, s2, s3⟩
set_option maxRecDepth 100000 in
theorem open_unit {H : Type} {enc : TypeId × Value → H} {W : World} {r : Reach} {base : Nat} {v : Value} {d : DataW H} {p : List MemPlace}
    (hv : Value.okWide Try.prog W r base 27 v) (h : DataW.Trod enc Try.prog W 0 (fun _ => true) true 27 v d p) :
    ∃ (v' : UV) (u : Un), v = .agg #[.int .i64 u.fm, .slice v'.a u.fs.length v'.c] ∧ Sl W v'.a v'.c (u.fs.map (.int .i64)) := by
  obtain ⟨cs, rfl, hsz⟩ := okWide_struct Try.underlying27 hv
  obtain ⟨fuel, hf⟩ := h
  obtain ⟨f, hc, hS⟩ := unit_cells (by simpa [Value.cells] using hf)
  obtain ⟨l⟩ := cs
  simp only at hc
  subst hc
  exact ⟨f.2, f.1, rfl, hS⟩
end Go.Proofs.Ytjmbdfoegnfpnaa
