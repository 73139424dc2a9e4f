/- Lists of plans, of lists of units and of numbers, laid in blocks. -/
import Derived.Test.YtjmbdfoegnfpnaaKZ
import Derived.Test.YtjmbdfoegnfpnaaJ6R
namespace Go.Proofs.Ytjmbdfoegnfpnaa
open Go.RowKit
set_option linter.unusedVariables false
set_option linter.unusedSimpArgs false

def plC (x : PlV × Pl) : List Value := [.slice x.1.a1 x.2.ws.length x.1.c1, .slice x.1.a2 x.2.ls.length x.1.c2, .slice x.1.a3 x.2.ss.length x.1.c3, .int .i64 x.2.le, .int .i64 x.2.ra]
def plCells (l : List (PlV × Pl)) : List Value := l.flatMap plC
theorem plCells_at (l : List (PlV × Pl)) (i : Nat) (h : i < l.length) : (plCells l)[i * 5]? = some (.slice l[i].1.a1 l[i].2.ws.length l[i].1.c1) ∧ (plCells l)[i * 5 + 1]? = some (.slice l[i].1.a2 l[i].2.ls.length l[i].1.c2) ∧ (plCells l)[i * 5 + 2]? = some (.slice l[i].1.a3 l[i].2.ss.length l[i].1.c3) ∧ (plCells l)[i * 5 + 3]? = some (.int .i64 l[i].2.le) ∧ (plCells l)[i * 5 + 4]? = some (.int .i64 l[i].2.ra) := by
  induction l generalizing i with
  | nil => simp at h
  | cons o r ih =>
    have hc : plCells (o :: r) = plC o ++ plCells r := by simp [plCells]
    have hl : (plC o).length = 5 := rfl
    rw [hc]
    rcases i with _ | i
    · simp [plC]
    · have := ih i (by simpa using h)
      refine ⟨?_, ?_, ?_, ?_, ?_⟩ <;> (rw [List.getElem?_append_right (by rw [hl]; omega), hl])
      · rw [show (i + 1) * 5 - 5 = i * 5 from by omega]; exact this.1
      · rw [show (i + 1) * 5 + 1 - 5 = i * 5 + 1 from by omega]; exact this.2.1
      · rw [show (i + 1) * 5 + 2 - 5 = i * 5 + 2 from by omega]; exact this.2.2.1
      · rw [show (i + 1) * 5 + 3 - 5 = i * 5 + 3 from by omega]; exact this.2.2.2.1
      · rw [show (i + 1) * 5 + 4 - 5 = i * 5 + 4 from by omega]; exact this.2.2.2.2
theorem rowCellL {W : World} {X i : Nat} {cs : Array Value} {t : TypeId} {v : Value} (h : W.heap[X]? = some (.cells cs t (0, 0))) (hv : cs.toList[i]? = some v) : W.cell? ⟨X, i, none⟩ = some v := by
  have := World.news_of_block h i v hv
  rwa [add_none, Nat.zero_add] at this
/-- A list of units, and where it lies. -/
structure UL where
  a : Option Addr
  c : Nat
  l : List (Un × UV)
def ulC (x : UL) : Value := .slice x.a x.l.length x.c
/-- A list of numbers, and where it lies. -/
structure NL where
  a : Option Addr
  c : Nat
  l : List Int
def nlC (x : NL) : Value := .slice x.a x.l.length x.c
/-- The first unit of a list, where it lies. -/
theorem SlU.first {w : World} {A : Option Addr} {n c : Nat} {l : List (Un × UV)} (h : SlU w A n c l) (hn : 0 < n) : ∃ (b off : Nat) (x : Un × UV), A = some ⟨b, off, none⟩ ∧ b < w.heap.size ∧ w.cell? ⟨b, off, none⟩ = some (.int .i64 x.1.fm) ∧ w.cell? ⟨b, off + 1, none⟩ = some (.slice x.2.a x.1.fs.length x.2.c) ∧ Sl w x.2.a x.2.c (x.1.fs.map (.int .i64)) := by
  obtain ⟨b, off, e, hb, h0, h1, h2⟩ := h.at 0 (by have := h.len; omega)
  exact ⟨b, off, l[0]'(by have := h.len; omega), e, hb, by simpa using h0, by simpa using h1, h2⟩
theorem Sl.take2 {w : World} {A : Option Addr} {c : Nat} {l : List Int} (h : Sl w A c (l.map (.int .i64))) (j : Nat) : Sl w A c ((l.take j).map (.int .i64)) := Sl.take h j
theorem uCells_setFm (l : List (Un × UV)) (k : Nat) (hk : k < l.length) (x : Int) : (uCells l).set (k * 2) (.int .i64 x) = uCells (l.set k (⟨x, l[k].1.fs⟩, l[k].2)) := by
  induction l generalizing k with
  | nil => simp at hk
  | cons o r ih =>
    rcases k with _ | k
    · simp [uCells]
    · have := ih k (by simpa using hk)
      have hc : ∀ (o : Un × UV) (r : List (Un × UV)), uCells (o :: r) = [.int .i64 o.1.fm, .slice o.2.a o.1.fs.length o.2.c] ++ uCells r := fun o r => by simp [uCells]
      rw [hc, List.set_cons_succ, hc, List.set_append_right _ _ (by simp; omega)]
      simp only [List.getElem_cons_succ]
      rw [← this, show (k + 1) * 2 - ([Value.int .i64 o.1.fm, .slice o.2.a o.1.fs.length o.2.c] : List Value).length = k * 2 from by simp; omega]
theorem UsOwn.change {w : World} {base : Nat} {OA : Option Addr} {oc : Nat} {l : List (Un × UV)} (h : UsOwn w base (.slice OA l.length oc) l) {k : Nat} (hk : k < l.length) (x : Int) : ∃ g, OA = some ⟨g, 0, none⟩ ∧ base ≤ g ∧ g < w.heap.size ∧ w.cell? ⟨g, k * 2, none⟩ = some (.int .i64 l[k].1.fm) ∧ w.frozen? ⟨g, k * 2, none⟩ = false ∧
    UsOwn (w.setCell ⟨g, k * 2, none⟩ (.int .i64 x)) base (.slice OA l.length oc) (l.set k (⟨x, l[k].1.fs⟩, l[k].2)) := by
  obtain ⟨g, cap, e, h1, h2, _, _, h3, h4⟩ := own_at h.o (by omega)
  injection e with e1 e2 e3
  subst e1 e3
  obtain ⟨i0, i1⟩ := uCells_at l k hk
  refine ⟨g, rfl, h1, h2, h3 _ _ i0, h4 _, ?_⟩
  have hset := own_setN h.o (k * 2) (.int .i64 x)
  have hcs := uCells_setFm l k hk x
  rw [hcs] at hset
  have hmem : ∀ y ∈ l.set k (⟨x, l[k].1.fs⟩, l[k].2), ∃ z ∈ l, y.2 = z.2 ∧ y.1.fs = z.1.fs := by
    intro y hy
    rcases List.mem_or_eq_of_mem_set hy with h5 | rfl
    · exact ⟨y, h5, rfl, rfl⟩
    · exact ⟨l[k], List.getElem_mem hk, rfl, rfl⟩
  refine ⟨by rw [List.length_set]; exact hset, fun y hy => ?_, fun y hy g' hg' => ?_⟩
  · obtain ⟨z, hz, e1, e2⟩ := hmem y hy
    rw [e1, e2]
    refine own_setNe (h.fs z hz) (fun b hb eq => ?_) _
    exact h.ap z hz g (by simp [Value.ownBlock]) (by rw [hb]; exact congrArg some eq)
  · obtain ⟨z, hz, e1, e2⟩ := hmem y hy
    rw [e1, e2]
    exact h.ap z hz g' hg'
end Go.Proofs.Ytjmbdfoegnfpnaa
