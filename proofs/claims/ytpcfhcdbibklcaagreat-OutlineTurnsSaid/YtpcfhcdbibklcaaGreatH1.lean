/- Rectangles as cells; the model's == on them. -/
import Derived.Test.YtpcfhcdbibklcaaGreatB
import Derived.Test.YtpcfhcdbibklcaaGreatGq
namespace Go.Proofs.YtpcfhcdbibklcaaGreat
open Go.RowKit
set_option linter.unusedVariables false

def R4.cells (q : R4) : List Value := [.int .i64 q.l, .int .i64 q.b, .int .i64 q.r, .int .i64 q.t]
def rCells (l : List R4) : List Value := l.flatMap R4.cells
theorem rCells_len (l : List R4) : (rCells l).length = l.length * 4 := by
  induction l with
  | nil => rfl
  | cons o r ih => simp [rCells, R4.cells] at *; omega
theorem rCells_snoc (l : List R4) (q : R4) : rCells (l ++ [q]) = rCells l ++ [.int .i64 q.l, .int .i64 q.b, .int .i64 q.r, .int .i64 q.t] := by simp [rCells, R4.cells]
theorem rCells_app (l m : List R4) : rCells (l ++ m) = rCells l ++ rCells m := by simp [rCells]
theorem rCells_at (l : List R4) (i : Nat) (h : i < l.length) : (rCells l)[i * 4]? = some (.int .i64 l[i].l) ∧ (rCells l)[i * 4 + 1]? = some (.int .i64 l[i].b) ∧ (rCells l)[i * 4 + 2]? = some (.int .i64 l[i].r) ∧ (rCells l)[i * 4 + 3]? = some (.int .i64 l[i].t) := by
  induction l generalizing i with
  | nil => simp at h
  | cons o r ih =>
    have hc : rCells (o :: r) = o.cells ++ rCells r := by simp [rCells]
    rw [hc]
    rcases i with _ | i
    · simp [R4.cells]
    · have := ih i (by simpa using h)
      have hl : o.cells.length = 4 := rfl
      refine ⟨?_, ?_, ?_, ?_⟩ <;> (rw [List.getElem?_append_right (by rw [hl]; omega), hl])
      · rw [show (i + 1) * 4 - 4 = i * 4 from by omega]; exact this.1
      · rw [show (i + 1) * 4 + 1 - 4 = i * 4 + 1 from by omega]; exact this.2.1
      · rw [show (i + 1) * 4 + 2 - 4 = i * 4 + 2 from by omega]; exact this.2.2.1
      · rw [show (i + 1) * 4 + 3 - 4 = i * 4 + 3 from by omega]; exact this.2.2.2
theorem rCells_one (l : List R4) : ∀ u ∈ rCells l, u.oneCell' = true := by
  intro u hu
  simp only [rCells, List.mem_flatMap, R4.cells] at hu
  obtain ⟨o, _, hu⟩ := hu
  simp at hu
  rcases hu with rfl | rfl | rfl | rfl <;> rfl
theorem lies_r {w : World} {A : Option Addr} {n : Nat} {l : List R4} (h : Lies w A n (rCells l)) (i : Nat) (hi : i < n) (hl : i < l.length) :
    ∃ b off, A = some ⟨b, off, none⟩ ∧ b < w.heap.size ∧ w.cell? ⟨b, off + i * 4, none⟩ = some (.int .i64 l[i].l) ∧ w.cell? ⟨b, off + i * 4 + 1, none⟩ = some (.int .i64 l[i].b) ∧ w.cell? ⟨b, off + i * 4 + 2, none⟩ = some (.int .i64 l[i].r) ∧ w.cell? ⟨b, off + i * 4 + 3, none⟩ = some (.int .i64 l[i].t) := by
  obtain ⟨b, off, e, hb, hc⟩ := h.resolve_left (by omega)
  obtain ⟨h0, h1, h2, h3⟩ := rCells_at l i hl
  exact ⟨b, off, e, hb, hc _ _ h0, hc _ _ h1, hc _ _ h2, hc _ _ h3⟩
/-- A slice of rectangles. -/
structure SlR (w : World) (A : Option Addr) (n c : Nat) (l : List R4) : Prop where
  len : l.length = n
  cap : n ≤ c
  top : c ≤ maxLen
  lies : Lies w A n (rCells l)
theorem SlR.below {w w' : World} {A : Option Addr} {n c : Nat} {l : List R4} (h : SlR w A n c l) (hb : Below w.heap.size w w') : SlR w' A n c l := ⟨h.len, h.cap, h.top, h.lies.below hb⟩
theorem SlR.alloc {w : World} {A : Option Addr} {n c : Nat} {l : List R4} (h : SlR w A n c l) (o : Obj) : SlR (w.alloc o) A n c l := ⟨h.len, h.cap, h.top, h.lies.alloc o⟩
theorem SlR.drewN {w : World} {A : Option Addr} {n c : Nat} {l : List R4} (h : SlR w A n c l) (k : Nat) : SlR (w.drewN k) A n c l := ⟨h.len, h.cap, h.top, h.lies.drewN k⟩
theorem SlR.nil (w : World) : SlR w none 0 0 [] := ⟨rfl, Nat.le_refl _, Nat.zero_le _, .inl rfl⟩
theorem SlR.of_own {w : World} {base : Nat} {v : Value} {l : List R4} (h : w.ownsRow base 58 4 v l.length (rCells l)) : ∃ A c, v = .slice A l.length c ∧ SlR w A l.length c l := by
  obtain ⟨A, c, rfl, h1, h2, h3⟩ := own_slice h
  exact ⟨A, c, rfl, rfl, h2, h3, h1⟩
/-- A slice of whole numbers. -/
structure SlI (w : World) (A : Option Addr) (n c : Nat) (l : List Int) : Prop where
  len : l.length = n
  cap : n ≤ c
  top : c ≤ maxLen
  lies : Lies w A n (l.map (.int .i64))
theorem SlI.below {w w' : World} {A : Option Addr} {n c : Nat} {l : List Int} (h : SlI w A n c l) (hb : Below w.heap.size w w') : SlI w' A n c l := ⟨h.len, h.cap, h.top, h.lies.below hb⟩
theorem SlI.alloc {w : World} {A : Option Addr} {n c : Nat} {l : List Int} (h : SlI w A n c l) (o : Obj) : SlI (w.alloc o) A n c l := ⟨h.len, h.cap, h.top, h.lies.alloc o⟩
theorem SlI.drewN {w : World} {A : Option Addr} {n c : Nat} {l : List Int} (h : SlI w A n c l) (k : Nat) : SlI (w.drewN k) A n c l := ⟨h.len, h.cap, h.top, h.lies.drewN k⟩
theorem SlI.nil (w : World) : SlI w none 0 0 [] := ⟨rfl, Nat.le_refl _, Nat.zero_le _, .inl rfl⟩
theorem SlI.of_own {w : World} {base : Nat} {v : Value} {l : List Int} (h : w.ownsRow base 3 1 v l.length (l.map (.int .i64))) : ∃ A c, v = .slice A l.length c ∧ SlI w A l.length c l := by
  obtain ⟨A, c, rfl, h1, h2, h3⟩ := own_slice h
  exact ⟨A, c, rfl, rfl, h2, h3, h1⟩
theorem SlI.at {w : World} {A : Option Addr} {n c : Nat} {l : List Int} (h : SlI w A n c l) (i : Nat) (hi : i < l.length) : ∃ b off, A = some ⟨b, off, none⟩ ∧ b < w.heap.size ∧ w.cell? ⟨b, off + i, none⟩ = some (.int .i64 l[i]) := by
  obtain ⟨b, off, e, hb, hc⟩ := h.lies.resolve_left (by have := h.len; omega)
  exact ⟨b, off, e, hb, hc i _ (by simp [hi])⟩
theorem SlR.at {w : World} {A : Option Addr} {n c : Nat} {l : List R4} (h : SlR w A n c l) (i : Nat) (hi : i < l.length) :
    ∃ b off, A = some ⟨b, off, none⟩ ∧ b < w.heap.size ∧ w.cell? ⟨b, off + i * 4, none⟩ = some (.int .i64 l[i].l) ∧ w.cell? ⟨b, off + i * 4 + 1, none⟩ = some (.int .i64 l[i].b) ∧ w.cell? ⟨b, off + i * 4 + 2, none⟩ = some (.int .i64 l[i].r) ∧ w.cell? ⟨b, off + i * 4 + 3, none⟩ = some (.int .i64 l[i].t) :=
  lies_r h.lies i (by have := h.len; omega) hi

theorem rGuard (w : World) (x y : Operand) (op : BinOp) (xs ys : Array Value) : (eqGuard op 58 x y (.agg xs) (.agg ys)).run Tryz.prog w = .ok () w := run_eqGuard_agg w op _ x y xs ys (by kernel_rfl)
theorem rFields : Tryz.prog.fieldsOf 58 = #[{ name := "Left", type := 3, offset := 0, embedded := false, tag := "", pkgPath := "", byteOffset := 0 }, { name := "Low", type := 3, offset := 1, embedded := false, tag := "", pkgPath := "", byteOffset := 8 }, { name := "Right", type := 3, offset := 2, embedded := false, tag := "", pkgPath := "", byteOffset := 16 }, { name := "High", type := 3, offset := 3, embedded := false, tag := "", pkgPath := "", byteOffset := 24 }] := by kernel_rfl
def rEq (a b c d a' b' c' d' : Int) : Bool := a == a' && (b == b' && (c == c' && d == d'))
theorem rEqualIn (w : World) (k : Nat) (a b c d a' b' c' d' : Int) : (Op.equalIn (k + 2) 58 (.agg #[.int .i64 a, .int .i64 b, .int .i64 c, .int .i64 d]) (.agg #[.int .i64 a', .int .i64 b', .int .i64 c', .int .i64 d'])).run Tryz.prog w = .ok (rEq a b c d a' b' c' d') w := by
  have ci : Tryz.prog.cellsOf 3 = 1 := by kernel_rfl
  have h3 : ∀ (x y : Int) (w : World), (Op.equalIn (k + 1) 3 (.int .i64 x) (.int .i64 y)).run Tryz.prog w = .ok (x == y) w := fun x y w => run_equalIn_int w k 3 .i64 .i64 x y Tryz.underlying3
  rw [run_equalIn_agg w (k + 1) _ _ _ (by kernel_rfl) (by kernel_rfl), rFields]
  unfold rEq
  cases h1 : a == a' <;> cases h2 : b == b' <;> cases h4 : c == c' <;> cases h5 : d == d' <;> simp [Op.eqFields, go_sem, h3, h1, h2, h4, h5]
theorem r_neq (w : World) (a b c d a' b' c' d' : Int) : (binOp .neq 58 (.agg #[.int .i64 a, .int .i64 b, .int .i64 c, .int .i64 d]) (.agg #[.int .i64 a', .int .i64 b', .int .i64 c', .int .i64 d'])).run Tryz.prog w = .ok (.bool (!(rEq a b c d a' b' c' d'))) w := by
  rw [run_neq_struct, rEqualIn w 9998]
  rfl
theorem rEq_iff (o p : R4) : rEq o.l o.b o.r o.t p.l p.b p.r p.t = true ↔ o = p := by
  cases o; cases p; simp [rEq]

theorem Tryz.infoInt : (Tryz.prog.info? 3).map (fun i => (i.zero, i.size, i.bytes)) = some (some (.int .i64 0), 1, 8) := by kernel_rfl
theorem Tryz.infoRect : (Tryz.prog.info? 58).map (fun i => (i.zero, i.size, i.bytes)) = some (some (.agg #[.int .i64 0, .int .i64 0, .int .i64 0, .int .i64 0]), 4, 32) := by kernel_rfl
/-- Whether a rectangle is proper. -/
def R4.ok (q : R4) : Bool := decide (0 ≤ q.l) && decide (q.l < q.r) && decide (q.r ≤ 16384) && decide (0 ≤ q.b) && decide (q.b < q.t) && decide (q.t ≤ 16384)
theorem R4.ok_iff (q : R4) : q.ok = true ↔ 0 ≤ q.l ∧ q.l < q.r ∧ q.r ≤ 16384 ∧ 0 ≤ q.b ∧ q.b < q.t ∧ q.t ≤ 16384 := by
  simp [R4.ok]; omega
theorem R4.ok_not (q : R4) : q.ok = false ↔ ¬ (0 ≤ q.l ∧ q.l < q.r ∧ q.r ≤ 16384 ∧ 0 ≤ q.b ∧ q.b < q.t ∧ q.t ≤ 16384) := by
  rw [← R4.ok_iff]; simp
theorem inL_take_succ (l : List R4) (k : Nat) (h : k < l.length) (x y : Int) : inL (l.take (k + 1)) x y = (inL (l.take k) x y || l[k].has x y) := by
  unfold inL
  rw [List.take_succ_eq_append_getElem h, List.any_append, List.any_cons, List.any_nil, Bool.or_false]
end Go.Proofs.YtpcfhcdbibklcaaGreat
