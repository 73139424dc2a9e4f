/- How a draw that can be read is opened. -/
import Derived.Test.YtbkkmgofjhaaoaaOq
import Derived.Test.YtbkkmgofjhaaoaaD2
import Derived.Deep.Grids
namespace Go.Proofs.Ytbkkmgofjhaaoaa
open Go.ChangeShapes Go.WideShapes Go.ChangeAt Go.RowKit
set_option linter.unusedVariables false

theorem cInt : Try.prog.cellsOf 3 = 1 := by kernel_rfl
theorem cU64s : Try.prog.cellsOf 23 = 1 := by kernel_rfl
theorem cBools : Try.prog.cellsOf 24 = 1 := by kernel_rfl
theorem cDraw : Try.prog.cellsOf 26 = 5 := by kernel_rfl

theorem sl_fn {W : World} {x : Addr} {l cap : Nat} (V : Nat → Value) (hl : l ≤ cap) (hm : cap ≤ maxLen) (hcell : ∀ i, i < cap → W.cell? (x.add i) = some (V i)) : Sl W (some x) cap ((List.range l).map V) := by
  refine ⟨by simpa using hl, hm, ?_⟩
  rw [List.length_map, List.length_range]
  by_cases h0 : l = 0
  · exact .inl h0
  · obtain ⟨b, off, spot⟩ := x
    have hc0 := hcell 0 (by omega)
    have hspot : spot = none := by simpa [Addr.add] using World.cell?_spot hc0
    subst hspot
    have hb := World.block_lt_of_cell? W _ hc0
    rw [add_none] at hb
    refine .inr ⟨b, off, rfl, hb, fun j u hu => ?_⟩
    have hj : j < l := by
      rcases Nat.lt_or_ge j l with h | h
      · exact h
      · rw [List.getElem?_eq_none (by simp; omega)] at hu; cases hu
    have := hcell j (by omega)
    rw [add_none] at this
    rw [this]
    simpa [hj] using hu
theorem u64_cells {H : Type} {enc : TypeId × Value → H} {W : World} {fuel : Nat} {v : Value} {x : DataW H × List MemPlace} (h : DataW.trod enc Try.prog W 0 (fun _ => true) true fuel 23 [v] = some x) :
    ∃ (A : Option Addr) (c : Nat) (zs : List Int), v = .slice A zs.length c ∧ Sl W A c (zs.map (.int .u64)) := by
  rcases open_ints Try.underlying23 Try.underlying27 (by kernel_rfl) h with ⟨hcs, _⟩ | ⟨x, l, c', zs, hcs, _, hl, hm, hz, _, hcell, hwz⟩
  · injection hcs with hcs
    exact ⟨none, 0, [], hcs, Nat.le_refl _, Nat.zero_le _, .inl rfl⟩
  · injection hcs with hcs
    have hz' : zs.length = c' := by simpa using hz
    refine ⟨some x, c', (List.range l).map fun i => zs.getD i 0, by rw [hcs]; simp, ?_⟩
    rw [List.map_map]
    exact sl_fn _ hl hm (fun i hi => hcell i (by omega))
theorem bool_cells {H : Type} {enc : TypeId × Value → H} {W : World} {fuel : Nat} {v : Value} {x : DataW H × List MemPlace} (h : DataW.trod enc Try.prog W 0 (fun _ => true) true fuel 24 [v] = some x) :
    ∃ (A : Option Addr) (c : Nat) (zs : List Bool), v = .slice A zs.length c ∧ Sl W A c (zs.map .bool) := by
  rcases Go.Deep.open_bools Try.underlying24 Try.underlying4 (by kernel_rfl) h with ⟨hcs, _⟩ | ⟨x, l, c', B, hcs, _, hl, hm, _, hcell⟩
  · injection hcs with hcs
    exact ⟨none, 0, [], hcs, Nat.le_refl _, Nat.zero_le _, .inl rfl⟩
  · injection hcs with hcs
    refine ⟨some x, c', (List.range l).map B, by rw [hcs]; simp, ?_⟩
    rw [List.map_map]
    exact sl_fn _ hl hm hcell
set_option maxRecDepth 100000 in
theorem open_draw {H : Type} {enc : TypeId × Value → H} {W : World} {r : Reach} {base : Nat} {v : Value} {d : DataW H} {p : List MemPlace}
    (hv : Value.okWide Try.prog W r base 26 v) (h : DataW.Trod enc Try.prog W 0 (fun _ => true) true 26 v d p) :
    ∃ (q : DV) (x : Dr), v = .agg #[.int .i64 x.st, .slice q.a1 x.se.length q.c1, .slice q.a2 x.sd.length q.c2, .slice q.a3 x.sx.length q.c3, .slice q.a4 x.rv.length q.c4] ∧ DrAt W q x := by
  obtain ⟨cs, rfl, hsz⟩ := okWide_struct Try.underlying26 hv
  obtain ⟨fuel, hf⟩ := h
  obtain ⟨xs, n, rfl, _, hlen, hxl, hf⟩ := DataW.trod_struct Try.underlying26 hf
  rw [cDraw] at hlen
  obtain ⟨l⟩ := cs
  match l, hlen with
  | [c0, c1, c2, c3, c4], _ =>
    match xs, hxl with
    | [x0, x1, x2, x3, x4], _ =>
      have g0 : DataW.trod enc Try.prog W 0 (fun _ => true) true n 3 [c0] = some x0 := by have := hf 0 _ rfl; simpa [cInt, Value.cells] using this
      have g1 : DataW.trod enc Try.prog W 0 (fun _ => true) true n 23 [c1] = some x1 := by have := hf 1 _ rfl; simpa [cInt, cU64s, Value.cells] using this
      have g2 : DataW.trod enc Try.prog W 0 (fun _ => true) true n 24 [c2] = some x2 := by have := hf 2 _ rfl; simpa [cInt, cU64s, cBools, Value.cells] using this
      have g3 : DataW.trod enc Try.prog W 0 (fun _ => true) true n 23 [c3] = some x3 := by have := hf 3 _ rfl; simpa [cInt, cU64s, cBools, Value.cells] using this
      have g4 : DataW.trod enc Try.prog W 0 (fun _ => true) true n 24 [c4] = some x4 := by have := hf 4 _ rfl; simpa [cInt, cU64s, cBools, Value.cells] using this
      obtain ⟨a0, e0, _, _⟩ := DataW.trod_int Try.underlying3 g0
      obtain ⟨A1, k1, z1, rfl, s1⟩ := u64_cells g1
      obtain ⟨A2, k2, z2, rfl, s2⟩ := bool_cells g2
      obtain ⟨A3, k3, z3, rfl, s3⟩ := u64_cells g3
      obtain ⟨A4, k4, z4, rfl, s4⟩ := bool_cells g4
      simp only [List.cons.injEq, and_true] at e0
      subst e0
      exact ⟨⟨A1, k1, A2, k2, A3, k3, A4, k4⟩, ⟨a0, z1, z2, z3, z4⟩, rfl, s1, s2, s3, s4⟩
end Go.Proofs.Ytbkkmgofjhaaoaa
