/- Contract: rects (regions): bands as rectangles. -/
import Derived.Test.YtpcfhcdbibklcaaGreatR3
namespace Go.Proofs.YtpcfhcdbibklcaaGreat
open Go.RowKit
set_option linter.unusedVariables false
set_option linter.unusedSimpArgs false

/-- A slice of spans. -/
structure SlS (w : World) (v : Value) (l : List (Sg Unit)) : Prop where
  sl : ∃ A c, v = .slice A l.length c ∧ l.length ≤ c ∧ c ≤ maxLen ∧ Lies w A l.length (sCells l)
theorem SlS.below {w w' : World} {v : Value} {l : List (Sg Unit)} (h : SlS w v l) (hb : Below w.heap.size w w') : SlS w' v l := by
  obtain ⟨A, c, h1, h2, h3, h4⟩ := h
  exact ⟨A, c, h1, h2, h3, h4.below hb⟩
theorem SlS.of_own {w : World} {base : Nat} {v : Value} {l : List (Sg Unit)} (h : w.ownsRow base 111 2 v l.length (sCells l)) : SlS w v l := by
  obtain ⟨A, c, rfl, h1, h2, h3⟩ := own_slice h
  exact ⟨A, c, rfl, h2, h3, h1⟩
/-- The cells of bands: low, high, the slice of the spans. -/
def bCells (bs : List (Sg (List (Sg Unit)))) (vs : List Value) : List Value := (bs.zip vs).flatMap fun x => [.int .i64 x.1.1, .int .i64 x.1.2.1, x.2]
theorem bCells_len (bs : List (Sg (List (Sg Unit)))) (vs : List Value) (h : vs.length = bs.length) : (bCells bs vs).length = bs.length * 3 := by
  induction bs generalizing vs with
  | nil => simp [bCells]
  | cons b t ih =>
    cases vs with
    | nil => simp at h
    | cons v u => have := ih u (by simpa using h); simp [bCells] at this ⊢; omega
theorem bCells_snoc (bs : List (Sg (List (Sg Unit)))) (vs : List Value) (h : vs.length = bs.length) (b : Sg (List (Sg Unit))) (v : Value) : bCells (bs ++ [b]) (vs ++ [v]) = bCells bs vs ++ [.int .i64 b.1, .int .i64 b.2.1, v] := by
  unfold bCells
  rw [List.zip_append h.symm]
  simp
theorem bCells_split (bs : List (Sg (List (Sg Unit)))) (vs : List Value) (h : vs.length = bs.length) (i : Nat) (hi : i < bs.length) (hv : i < vs.length) : ∃ p q, bCells bs vs = p ++ [.int .i64 bs[i].1, .int .i64 bs[i].2.1, vs[i]] ++ q ∧ p.length = i * 3 ∧ ∀ z, bCells (bs.set i z) vs = p ++ [.int .i64 z.1, .int .i64 z.2.1, vs[i]] ++ q := by
  induction bs generalizing vs i with
  | nil => simp at hi
  | cons b t ih =>
    cases vs with
    | nil => simp at h
    | cons v u =>
      rcases i with _ | i
      · exact ⟨[], bCells t u, by simp [bCells], rfl, fun z => by simp [bCells]⟩
      · obtain ⟨p, q, e1, e2, e3⟩ := ih u (by simpa using h) i (by simpa using hi) (by simpa using hv)
        refine ⟨[.int .i64 b.1, .int .i64 b.2.1, v] ++ p, q, ?_, by simp; omega, fun z => ?_⟩
        · have : bCells (b :: t) (v :: u) = [.int .i64 b.1, .int .i64 b.2.1, v] ++ bCells t u := by simp [bCells]
          rw [this, e1]; simp
        · have : bCells ((b :: t).set (i + 1) z) (v :: u) = [.int .i64 b.1, .int .i64 b.2.1, v] ++ bCells (t.set i z) u := by simp [bCells]
          rw [this, e3]; simp
theorem bCells_at (bs : List (Sg (List (Sg Unit)))) (vs : List Value) (h : vs.length = bs.length) (i : Nat) (hi : i < bs.length) (hv : i < vs.length) : (bCells bs vs)[i * 3]? = some (.int .i64 bs[i].1) ∧ (bCells bs vs)[i * 3 + 1]? = some (.int .i64 bs[i].2.1) ∧ (bCells bs vs)[i * 3 + 2]? = some vs[i] := by
  obtain ⟨p, q, e1, e2, _⟩ := bCells_split bs vs h i hi hv
  rw [e1, ← e2, List.append_assoc]
  refine ⟨?_, ?_, ?_⟩ <;> (rw [List.getElem?_append_right (by omega)]) <;> simp
theorem bCells_setH (bs : List (Sg (List (Sg Unit)))) (vs : List Value) (h : vs.length = bs.length) (i : Nat) (hi : i < bs.length) (hv : i < vs.length) (x : Int) : bCells (bs.set i (bs[i].1, x, bs[i].2.2)) vs = (bCells bs vs).set (i * 3 + 1) (.int .i64 x) := by
  obtain ⟨p, q, e1, e2, e3⟩ := bCells_split bs vs h i hi hv
  rw [e3, e1, ← e2]
  simp
end Go.Proofs.YtpcfhcdbibklcaaGreat
