/- ToleranceAnswers: openings of measurements, and the claim. -/
import Derived.Test.YteehihmjbibebaaGreatOg
import Derived.Test.YteehihmjbibebaaGreatMz
import Derived.Test.YteehihmjbibebaaGreatM8c
import Derived.Test.YteehihmjbibebaaGreatOq
import Derived.ProofKit
import Derived.OpenShut
import Derived.ChangeOld
import Derived.Below
namespace Go.Proofs.YteehihmjbibebaaGreat
open Go.ChangeShapes Go.WideShapes Go.ChangeAt Go.RowKit
set_option linter.unusedVariables false

theorem cMeasured : Tryz.prog.cellsOf 23 = 2 := by kernel_rfl
set_option maxRecDepth 100000 in
theorem meas_cells {H : Type} {enc : TypeId × Value → H} {W : World} {base : Nat} {spare : Nat → Bool} {held : Bool} {fuel : Nat} {cs : List Value} {x : DataW H × List MemPlace} (h : DataW.trod enc Tryz.prog W base spare held fuel 23 cs = some x) : ∃ f : Int × Int, cs = [.int .i64 f.1, .int .i64 f.2] := by
  obtain ⟨xs, n, rfl, _, hlen, hxl, hf⟩ := DataW.trod_struct Tryz.underlying23 h
  rw [cMeasured] at hlen
  match cs, hlen with
  | [c0, c1], _ =>
    match xs, hxl with
    | [x0, x1], _ =>
      have g0 : DataW.trod enc Tryz.prog W base spare held n 3 [c0] = some x0 := by have := hf 0 _ rfl; simpa [cInt] using this
      have g1 : DataW.trod enc Tryz.prog W base spare held n 3 [c1] = some x1 := by have := hf 1 _ rfl; simpa [cInt] using this
      obtain ⟨a0, e0, _, _⟩ := DataW.trod_int Tryz.underlying3 g0
      obtain ⟨a1, e1, _, _⟩ := DataW.trod_int Tryz.underlying3 g1
      simp only [List.cons.injEq, and_true] at e0 e1
      exact ⟨⟨a0, a1⟩, by rw [e0, e1]⟩
set_option maxRecDepth 100000 in
theorem open_meas {H : Type} {enc : TypeId × Value → H} {W : World} {r : Reach} {base : Nat} {v : Value} {d : DataW H} {p : List MemPlace}
    (hv : Value.okWide Tryz.prog W r base 23 v) (h : DataW.Trod enc Tryz.prog W 0 (fun _ => true) true 23 v d p) :
    ∃ a b : Int, v = .agg #[.int .i64 a, .int .i64 b] := by
  obtain ⟨cs, rfl, hsz⟩ := okWide_struct Tryz.underlying23 hv
  obtain ⟨fuel, hf⟩ := h
  obtain ⟨f, hc⟩ := meas_cells hf
  refine ⟨f.1, f.2, ?_⟩
  obtain ⟨l⟩ := cs
  have : l = [.int .i64 f.1, .int .i64 f.2] := by simpa [Value.cells] using hc
  rw [this]
set_option maxRecDepth 100000 in
theorem open_meass {H : Type} {enc : TypeId × Value → H} {W : World} {r : Reach} {base : Nat} {v : Value} {d : DataW H} {p : List MemPlace}
    (hv : Value.okWide Tryz.prog W r base 24 v) (h : DataW.Trod enc Tryz.prog W 0 (fun _ => true) true 24 v d p) :
    ∃ (A : Option Addr) (n c : Nat) (L : List (Int × Int)), v = .slice A n c ∧ SlM W A n c L := by
  obtain ⟨A, n, c, rfl⟩ : ∃ A n c, v = .slice A n c := okWide_slice Tryz.underlying24 hv
  obtain ⟨fuel, hf⟩ := h
  refine ⟨A, n, c, ?_⟩
  rcases Go.Deep.open_slice Tryz.underlying24 (by simpa [Value.cells] using hf) with ⟨hcs, _⟩ | ⟨a, len, cap, m, n', D, Pl, hcs, _, hl, hm, hmm, _, hel⟩
  · injection hcs with hcs
    injection hcs with e1 e2 e3
    subst e1 e2 e3
    exact ⟨[], rfl, rfl, Nat.le_refl _, by decide, .inl rfl⟩
  · injection hcs with hcs
    injection hcs with e1 e2 e3
    subst e1 e2 e3
    have hm' : m = c := by simpa using hmm
    subst hm'
    rw [cMeasured] at hel
    obtain ⟨L, hL, hP⟩ := gatherL (P := fun i (f : Int × Int) => W.cells? 0 (a.add (i * 2)) 2 = some [.int .i64 f.1, .int .i64 f.2]) n (fun i hi => by
      obtain ⟨cs', hc, ht⟩ := hel i (by omega)
      obtain ⟨f, rfl⟩ := meas_cells ht
      exact ⟨f, hc⟩)
    subst hL
    refine ⟨L, rfl, rfl, hl, hm, ?_⟩
    by_cases h0 : L.length = 0
    · exact .inl h0
    · obtain ⟨b, off, spot⟩ := a
      have hc0 := hP 0 (by omega)
      obtain ⟨_, _, hat0⟩ := World.cells?_some hc0
      have hc00 := hat0 0 (by decide)
      have hspot : spot = none := by simpa [Addr.add] using World.cell?_spot (hc00.trans rfl)
      subst hspot
      have hb := World.block_lt_of_cell? W _ (hc00.trans rfl)
      rw [add_none, add_none] at hb
      refine .inr ⟨b, off, rfl, hb, fun j u hu => ?_⟩
      have hj : j < L.length * 2 := by
        rcases Nat.lt_or_ge j (mCells L).length with h | h
        · rw [mCells_len] at h; exact h
        · rw [List.getElem?_eq_none h] at hu; cases hu
      have hi : j / 2 < L.length := by omega
      obtain ⟨_, _, hat⟩ := World.cells?_some (hP (j / 2) hi)
      have hx := hat (j % 2) (by omega)
      rw [add_none, add_none] at hx
      have ej : off + j / 2 * 2 + j % 2 = off + j := by omega
      rw [ej] at hx
      rw [hx, ← hu]
      obtain ⟨i0, i1⟩ := mCells_at L (j / 2) hi
      have ej' : (mCells L)[j]? = (mCells L)[j / 2 * 2 + j % 2]? := congrArg (fun z => (mCells L)[z]?) (by omega)
      rw [ej']
      rcases (show j % 2 = 0 ∨ j % 2 = 1 by omega) with e | e
      · rw [e]; exact i0.symm
      · rw [e]; exact i1.symm
end Go.Proofs.YteehihmjbibebaaGreat
namespace Go.Proofs.YteehihmjbibebaaGreat.toleranceAnswers
open Go.ChangeShapes Go.WideShapes Go.ChangeAt Go.RowKit
set_option linter.unusedVariables false

theorem own : ownKnob Tryz.prog.godebug = none := by kernel_rfl
theorem laidOut : laidOutB Tryz.prog = true := by kernel_rfl

set_option maxRecDepth 100000 in
theorem lifted (os : Os) (started : os.Started) (H : Type) (enc : TypeId × Value → H) :
    ReturnsInHanded {} Tryz.checked os 3 .any (Rows.toleranceAnswersSpec.pre6 enc Tryz.prog Tryz.f3 Rows.toleranceAnswersRow.domain false) (Rows.toleranceAnswersSpec.post enc Tryz.prog Tryz.f3 false true false false) := by
  refine returnsInHanded_of_change (C := Tryz.checked) own started (by kernel_rfl) Tryz.func3
    (ChangeSpec.witness6 (enc := enc) (C := Tryz.checked) false ⟨#[], #[.int .i64 0, .int .i64 0, .agg #[.int .i64 0, .int .i64 0], .slice none 0 0, .agg #[.slice none 0 0], .slice none 0 0], []⟩ 8 (by kernel_rfl) (by kernel_rfl) (by kernel_rfl) (by kernel_rfl)) ?_
  intro W base args ds gs before hval0 hW hcnd _
  have hval : ∀ (j : Nat) t v, Tryz.f3.params[j]? = some t → args[j]? = some v → Value.okWide Tryz.prog W .any base t v := hval0
  have hW' := hW
  obtain ⟨p, q, hA0, hV, rfl, hfz, hnd⟩ := hW
  have hA : DataW.TrodAll enc Tryz.prog W 0 (fun _ => true) true Tryz.f3.params.toList args.toList ds p := hA0
  rw [Tryz.params3] at hA hval
  obtain ⟨v0, vs0, d0, ds0, p0, q0, hargs, rfl, rfl, h0, r0⟩ := trodAll_cons hA
  obtain ⟨v1, vs1, d1, ds1, p1, q1, rfl, rfl, rfl, h1, r1⟩ := trodAll_cons r0
  obtain ⟨v2, vs2, d2, ds2, p2, q2, rfl, rfl, rfl, h2, r2⟩ := trodAll_cons r1
  obtain ⟨v3, vs3, d3, ds3, p3, q3, rfl, rfl, rfl, h3, r3⟩ := trodAll_cons r2
  obtain ⟨v4, vs4, d4, ds4, p4, q4, rfl, rfl, rfl, h4, r4⟩ := trodAll_cons r3
  obtain ⟨v5, vs5, d5, ds5, p5, q5, rfl, rfl, rfl, h5, r5⟩ := trodAll_cons r4
  obtain ⟨rfl, rfl, rfl⟩ := trodAll_nil r5
  obtain rfl : args = #[v0, v1, v2, v3, v4, v5] := by cases args; simp_all
  obtain ⟨rfl, rfl⟩ := trodVars_none hV
  have k0 := h0
  have lt0 : ∀ x ∈ p0, x.block < W.heap.size := by obtain ⟨m, hm⟩ := k0; exact DataW.trod_lt m _ _ _ hm
  have k1 := h1
  have lt1 : ∀ x ∈ p1, x.block < W.heap.size := by obtain ⟨m, hm⟩ := k1; exact DataW.trod_lt m _ _ _ hm
  have k2 := h2
  have lt2 : ∀ x ∈ p2, x.block < W.heap.size := by obtain ⟨m, hm⟩ := k2; exact DataW.trod_lt m _ _ _ hm
  have k3 := h3
  have lt3 : ∀ x ∈ p3, x.block < W.heap.size := by obtain ⟨m, hm⟩ := k3; exact DataW.trod_lt m _ _ _ hm
  have k4 := h4
  have lt4 : ∀ x ∈ p4, x.block < W.heap.size := by obtain ⟨m, hm⟩ := k4; exact DataW.trod_lt m _ _ _ hm
  have k5 := h5
  have lt5 : ∀ x ∈ p5, x.block < W.heap.size := by obtain ⟨m, hm⟩ := k5; exact DataW.trod_lt m _ _ _ hm
  obtain ⟨a0, rfl, _, _, w0⟩ := open_int Tryz.underlying3 (hval 0 3 v0 rfl rfl) h0
  obtain ⟨a1, rfl, _, _, w1⟩ := open_int Tryz.underlying3 (hval 1 3 v1 rfl rfl) h1
  obtain ⟨m2, b2, rfl⟩ := open_meas (hval 2 23 v2 rfl rfl) h2
  obtain ⟨A3, n3, c3, L3, rfl, hS3⟩ := open_meass (hval 3 24 v3 rfl rfl) h3
  obtain ⟨A4, c4, L4, rfl, hS4⟩ := open_region (hval 4 27 v4 rfl rfl) h4
  obtain ⟨A5, n5, c5, z5, rfl, hz5, hm5, hl5, hw5⟩ := open_lies Tryz.underlying28 Tryz.underlying3 (by kernel_rfl) (hval 5 28 v5 rfl rfl) h5
  clear hA0 hval0
  refine (answers8Law a0 a1 m2 b2 A3 n3 c3 L3 A4 c4 L4 A5 n5 c5 z5 W w0 w1 hS3 hS4 hz5 hm5.1 hm5.2 hw5 hl5).mono fun e W' ⟨he, bel⟩ => ?_
  subst he
  exact ⟨_, rfl, _, _, _, [], _, [], hW', trodAll_mk1 (shut_bool Tryz.underlying4 _), (trodAll_cons_mk (Below.trod laidOut (by kernel_rfl) (of_decide_eq_true (by kernel_rfl)) k0 bel lt0) (trodAll_cons_mk (Below.trod laidOut (by kernel_rfl) (of_decide_eq_true (by kernel_rfl)) k1 bel lt1) (trodAll_cons_mk (Below.trod laidOut (by kernel_rfl) (of_decide_eq_true (by kernel_rfl)) k2 bel lt2) (trodAll_cons_mk (Below.trod laidOut (by kernel_rfl) (of_decide_eq_true (by kernel_rfl)) k3 bel lt3) (trodAll_cons_mk (Below.trod laidOut (by kernel_rfl) (of_decide_eq_true (by kernel_rfl)) k4 bel lt4) (trodAll_cons_mk (Below.trod laidOut (by kernel_rfl) (of_decide_eq_true (by kernel_rfl)) k5 bel lt5) trodAll_mk0)))))), rfl, bel.frame _, fun h => by cases h⟩

theorem over : Rows.toleranceAnswersRow.holds Tryz.pinned (OpenSpec.ofChange Rows.toleranceAnswersSpec) :=
  OpenClaim.holds_of_wide 3 Tryz.f3 rfl rfl rfl rfl rfl rfl rfl ⟨rfl, rfl, rfl, rfl, rfl⟩ rfl rfl rfl rfl rfl (by kernel_rfl) Tryz.func3 (by kernel_rfl)
    (of_decide_eq_true (by kernel_rfl)) (by unfold Func.isWrapper; first | (rw [if_pos (by decide +kernel)]; kernel_rfl) | (rw [if_neg (by decide +kernel)]; exact ⟨rfl, rfl⟩))
    (fun os started H enc _ => lifted os started H enc)

/-- The statement. -/
theorem proved : Rows.ToleranceAnswersSaid := over
#print axioms proved
end Go.Proofs.YteehihmjbibebaaGreat.toleranceAnswers
