/- How rows of lines that can be read are opened. -/
import Derived.Test.YtglanlpjoaholaaGreatOg
import Derived.Test.YtglanlpjoaholaaGreatY2
namespace Go.Proofs.YtglanlpjoaholaaGreat
open Go.ChangeShapes Go.WideShapes Go.ChangeAt Go.RowKit
set_option linter.unusedVariables false
set_option linter.unusedSimpArgs false

theorem flat_at {α : Type} (f : α → List Value) (k : Nat) (hk : 0 < k) : ∀ (L : List α), (∀ x ∈ L, (f x).length = k) → ∀ j (hj : j / k < L.length), (L.flatMap f)[j]? = (f (L[j / k]'hj))[j % k]?
  | [], _, j, hj => by simp at hj
  | a :: t, h, j, hj => by
    rw [List.flatMap_cons]
    have ha := h a (by simp)
    by_cases hlt : j < k
    · rw [List.getElem?_append_left (by omega)]
      have e1 : j / k = 0 := Nat.div_eq_of_lt hlt
      have e2 : j % k = j := Nat.mod_eq_of_lt hlt
      simp only [e1, e2, List.getElem_cons_zero]
    · rw [List.getElem?_append_right (by omega), ha]
      have e1 : j / k = (j - k) / k + 1 := Nat.div_eq_sub_div hk (by omega)
      have e2 : j % k = (j - k) % k := by rw [Nat.mod_eq_sub_mod (by omega)]
      have hj' : (j - k) / k < t.length := by rw [e1] at hj; simpa using hj
      rw [flat_at f k hk t (fun x hx => h x (by simp [hx])) (j - k) hj']
      simp only [e1, e2, List.getElem_cons_succ]
theorem lies_of {α : Type} (f : α → List Value) (k : Nat) (hk : 0 < k) (L : List α) (hf : ∀ x ∈ L, (f x).length = k) {W : World} {a : Addr} (h : ∀ i (hi : i < L.length), W.cells? 0 (a.add (i * k)) k = some (f L[i])) : Lies W (some a) L.length (L.flatMap f) := by
  by_cases h0 : L.length = 0
  · exact .inl h0
  · obtain ⟨b, off, spot⟩ := a
    have hl0 := hf L[0] (List.getElem_mem (by omega))
    obtain ⟨_, _, hat0⟩ := World.cells?_some (h 0 (by omega))
    have hc00 := hat0 0 hk
    have hz : ∃ z, (f L[0])[0]? = some z := ⟨_, List.getElem?_eq_getElem (by omega)⟩
    obtain ⟨z, hz⟩ := hz
    rw [hz] at hc00
    have hspot : spot = none := by simpa [Addr.add] using World.cell?_spot hc00
    subst hspot
    have hb := World.block_lt_of_cell? W _ hc00
    rw [add_none, add_none] at hb
    refine .inr ⟨b, off, rfl, hb, fun j u hu => ?_⟩
    have hL : (L.flatMap f).length = L.length * k := by
      have : ∀ M : List α, (∀ x ∈ M, (f x).length = k) → (M.flatMap f).length = M.length * k := by
        intro M
        induction M with
        | nil => intro _; simp
        | cons x t ih => intro hM; rw [List.flatMap_cons, List.length_append, hM x (by simp), ih fun y hy => hM y (by simp [hy]), List.length_cons, Nat.succ_mul]; omega
      exact this L hf
    have hj : j < L.length * k := by
      rcases Nat.lt_or_ge j (L.flatMap f).length with h | h
      · omega
      · rw [List.getElem?_eq_none h] at hu; cases hu
    have hi : j / k < L.length := (Nat.div_lt_iff_lt_mul hk).2 hj
    obtain ⟨_, _, hat⟩ := World.cells?_some (h (j / k) hi)
    have hx := hat (j % k) (Nat.mod_lt _ hk)
    rw [add_none, add_none] at hx
    have ej : off + j / k * k + j % k = off + j := by
      have := Nat.div_add_mod j k
      rw [Nat.mul_comm] at this
      omega
    rw [ej] at hx
    rw [hx, ← hu, flat_at f k hk L hf j hi]
theorem cLine : Tryz.prog.cellsOf 38 = 4 := by kernel_rfl
set_option maxRecDepth 100000 in
theorem line_cells {H : Type} {enc : TypeId × Value → H} {W : World} {fuel : Nat} {cs : List Value} {x : DataW H × List MemPlace} {held : Bool} (h : DataW.trod enc Tryz.prog W 0 (fun _ => true) held fuel 38 cs = some x) :
    ∃ f : Ln × LV, cs = lnC f ∧ SlR W f.2.a f.1.rg.length f.2.c f.1.rg := by
  obtain ⟨xs, n, rfl, _, hlen, hxl, hf⟩ := DataW.trod_struct Tryz.underlying38 h
  rw [cLine] at hlen
  match cs, hlen with
  | [c0, c1, c2, c3], _ =>
    match xs, hxl with
    | [x0, x1, x2, x3], _ =>
      have g0 : DataW.trod enc Tryz.prog W 0 (fun _ => true) held n 3 [c0] = some x0 := by have := hf 0 _ rfl; simpa [cInt] using this
      have g1 : DataW.trod enc Tryz.prog W 0 (fun _ => true) held n 33 [c1] = some x1 := by have := hf 1 _ rfl; simpa [cRegion, cInt] using this
      have g2 : DataW.trod enc Tryz.prog W 0 (fun _ => true) held n 3 [c2] = some x2 := by have := hf 2 _ rfl; simpa [cInt, cRegion] using this
      have g3 : DataW.trod enc Tryz.prog W 0 (fun _ => true) held n 3 [c3] = some x3 := by have := hf 3 _ rfl; simpa [cInt, cRegion] using this
      obtain ⟨a0, e0, _, _⟩ := DataW.trod_int Tryz.underlying3 g0
      obtain ⟨A, c, r, e1, hS⟩ := region_cells g1
      obtain ⟨a2, e2, _, _⟩ := DataW.trod_int Tryz.underlying3 g2
      obtain ⟨a3, e3, _, _⟩ := DataW.trod_int Tryz.underlying3 g3
      simp only [List.cons.injEq, and_true] at e0 e1 e2 e3
      exact ⟨(⟨a0, r, a2, a3⟩, ⟨A, c⟩), by rw [e0, e1, e2, e3]; rfl, hS⟩
set_option maxRecDepth 100000 in
theorem lines_cells {H : Type} {enc : TypeId × Value → H} {W : World} {fuel : Nat} {v : Value} {x : DataW H × List MemPlace} {held : Bool} (h : DataW.trod enc Tryz.prog W 0 (fun _ => true) held fuel 25 [v] = some x) :
    ∃ (A : Option Addr) (c : Nat) (L : LL), v = .slice A L.length c ∧ SlL W A L.length c L := by
  rcases Go.Deep.open_slice Tryz.underlying25 h with ⟨hcs, _⟩ | ⟨a, len, cap, m, n', D, Pl, hcs, _, hl, hm, hmm, _, hel⟩
  · injection hcs with hcs
    exact ⟨none, 0, [], hcs, rfl, Nat.le_refl _, Nat.zero_le _, .inl rfl, fun x hx => by cases hx⟩
  · injection hcs with hcs
    have hm' : m = cap := by simpa using hmm
    subst hm'
    rw [cLine] at hel
    obtain ⟨L, hL, hP⟩ := gatherL (P := fun i (f : Ln × LV) => W.cells? 0 (a.add (i * 4)) 4 = some (lnC f) ∧ SlR W f.2.a f.1.rg.length f.2.c f.1.rg) len (fun i hi => by
      obtain ⟨cs', hc, ht⟩ := hel i (by omega)
      obtain ⟨f, rfl, hS⟩ := line_cells ht
      exact ⟨f, hc, hS⟩)
    subst hL
    refine ⟨some a, m, L, hcs, rfl, hl, hm, ?_, fun x hx => ?_⟩
    · exact lies_of lnC 4 (by omega) L (fun _ _ => rfl) (fun i hi => (hP i hi).1)
    · obtain ⟨i, hi, rfl⟩ := List.getElem_of_mem hx
      exact (hP i hi).2
set_option maxRecDepth 100000 in
theorem open_lines {H : Type} {enc : TypeId × Value → H} {W : World} {r : Reach} {base : Nat} {v : Value} {d : DataW H} {p : List MemPlace}
    (hv : Value.okWide Tryz.prog W r base 25 v) (h : DataW.Trod enc Tryz.prog W 0 (fun _ => true) true 25 v d p) :
    ∃ (A : Option Addr) (c : Nat) (L : LL), v = .slice A L.length c ∧ SlL W A L.length c L := by
  obtain ⟨A, n, c, rfl⟩ := okWide_slice Tryz.underlying25 hv
  obtain ⟨fuel, hf⟩ := h
  exact lines_cells hf
end Go.Proofs.YtglanlpjoaholaaGreat
