/- Plain: units of a plan, what is wrong with them, their scores and strata; where they lie. -/
import Derived.Test.YtjmbdfoegnfpnaaJ0
namespace Go.Proofs.Ytjmbdfoegnfpnaa
open Go.RowKit
set_option linter.unusedVariables false
set_option linter.unusedSimpArgs false

/-- A unit. -/
structure Un where
  fm : Int
  fs : List Int
  deriving DecidableEq
/-- Where its factors lie. -/
structure UV where
  a : Option Addr
  c : Nat
def uCells (l : List (Un × UV)) : List Value := l.flatMap fun x => [.int .i64 x.1.fm, .slice x.2.a x.1.fs.length x.2.c]
theorem uCells_snoc (l : List (Un × UV)) (x : Un × UV) : uCells (l ++ [x]) = uCells l ++ [.int .i64 x.1.fm, .slice x.2.a x.1.fs.length x.2.c] := by simp [uCells]
theorem uCells_app (l m : List (Un × UV)) : uCells (l ++ m) = uCells l ++ uCells m := by simp [uCells]
theorem uCells_len (l : List (Un × UV)) : (uCells l).length = l.length * 2 := by
  induction l with
  | nil => rfl
  | cons o r ih => simp [uCells] at *; omega
theorem uCells_at (l : List (Un × UV)) (i : Nat) (h : i < l.length) : (uCells l)[i * 2]? = some (.int .i64 l[i].1.fm) ∧ (uCells l)[i * 2 + 1]? = some (.slice l[i].2.a l[i].1.fs.length l[i].2.c) := by
  induction l generalizing i with
  | nil => simp at h
  | cons o r ih =>
    have hc : uCells (o :: r) = [.int .i64 o.1.fm, .slice o.2.a o.1.fs.length o.2.c] ++ uCells r := by simp [uCells]
    rw [hc]
    rcases i with _ | i
    · simp
    · have := ih i (by simpa using h)
      refine ⟨?_, ?_⟩ <;> rw [List.getElem?_append_right (by simp; omega)]
      · rw [show (i + 1) * 2 - ([Value.int .i64 o.1.fm, .slice o.2.a o.1.fs.length o.2.c] : List Value).length = i * 2 from by simp; omega]; exact this.1
      · rw [show (i + 1) * 2 + 1 - ([Value.int .i64 o.1.fm, .slice o.2.a o.1.fs.length o.2.c] : List Value).length = i * 2 + 1 from by simp; omega]; exact this.2
theorem uCells_one (l : List (Un × UV)) : ∀ u ∈ uCells l, u.oneCell' = true := by
  intro u hu
  simp only [uCells, List.mem_flatMap] at hu
  obtain ⟨o, _, hu⟩ := hu
  simp at hu
  rcases hu with rfl | rfl <;> rfl
/-- A slice of units. -/
structure SlU (w : World) (A : Option Addr) (n c : Nat) (l : List (Un × UV)) : Prop where
  len : l.length = n
  cap : n ≤ c
  top : c ≤ maxLen
  lies : Lies w A n (uCells l)
  fits : ∀ x ∈ l, Sl w x.2.a x.2.c (x.1.fs.map (.int .i64))
theorem SlU.below {w w' : World} {A : Option Addr} {n c : Nat} {l : List (Un × UV)} (h : SlU w A n c l) (hb : Below w.heap.size w w') : SlU w' A n c l := ⟨h.len, h.cap, h.top, h.lies.below hb, fun x hx => (h.fits x hx).below hb⟩
theorem SlU.at {w : World} {A : Option Addr} {n c : Nat} {l : List (Un × UV)} (h : SlU w A n c l) (i : Nat) (hi : i < l.length) :
    ∃ b off, A = some ⟨b, off, none⟩ ∧ b < w.heap.size ∧ w.cell? ⟨b, off + i * 2, none⟩ = some (.int .i64 l[i].1.fm) ∧ w.cell? ⟨b, off + i * 2 + 1, none⟩ = some (.slice l[i].2.a l[i].1.fs.length l[i].2.c) ∧ Sl w l[i].2.a l[i].2.c (l[i].1.fs.map (.int .i64)) := by
  obtain ⟨b, off, e, hb, hc⟩ := h.lies.resolve_left (by have := h.len; omega)
  obtain ⟨h0, h1⟩ := uCells_at l i hi
  exact ⟨b, off, e, hb, hc _ _ h0, hc _ _ h1, h.fits _ (List.getElem_mem hi)⟩
/-- The plain units. -/
def uns (l : List (Un × UV)) : List Un := l.map (·.1)
theorem uns_len (l : List (Un × UV)) : (uns l).length = l.length := by simp [uns]
theorem uns_at (l : List (Un × UV)) (i : Nat) (h : i < l.length) : (uns l)[i]'(by simp [uns, h]) = l[i].1 := by simp [uns]
theorem uns_getD (l : List (Un × UV)) (i : Nat) (h : i < l.length) (d : Un) : (uns l).getD i d = l[i].1 := by simp [uns, List.getD_eq_getElem?_getD, h]

def factB (q : Pl) (u : Un) : Bool := decide (u.fs.length = q.ws.length) && !u.fs.any (outP 0 100)
/-- The first that is not 0. -/
def firstE (f : Nat → Int) : Nat → Int
  | 0 => 0
  | k + 1 => if firstE f k = 0 then f k else firstE f k
theorem firstE_zero {f : Nat → Int} {n : Nat} (h : ∀ i, i < n → f i = 0) : firstE f n = 0 := by
  induction n with
  | zero => rfl
  | succ n ih => simp only [firstE]; rw [ih (fun i hi => h i (by omega)), if_pos rfl]; exact h n (by omega)
theorem firstE_all {f : Nat → Int} {n : Nat} (h : firstE f n = 0) : ∀ i, i < n → f i = 0 := by
  induction n with
  | zero => intro i hi; omega
  | succ n ih =>
    simp only [firstE] at h
    split at h
    · rename_i h0
      intro i hi
      rcases Nat.lt_or_ge i n with h1 | h1
      · exact ih h0 i h1
      · rw [show i = n by omega]; exact h
    · contradiction
theorem firstE_hit {f : Nat → Int} {k n : Nat} (hk : k < n) (h0 : firstE f k = 0) (h : f k ≠ 0) : firstE f n = f k := by
  induction n with
  | zero => omega
  | succ n ih =>
    simp only [firstE]
    rcases Nat.lt_or_ge k n with h1 | h1
    · rw [ih h1, if_neg h]
    · rw [show n = k by omega, if_pos h0]
theorem firstE_succ {f : Nat → Int} {k : Nat} (h0 : firstE f k = 0) : firstE f (k + 1) = f k := by simp only [firstE]; rw [if_pos h0]
/-- What is wrong with unit number i. -/
def unitE (q : Pl) (l : List Un) (i : Nat) : Int :=
  if outP 1 60 (l.getD i ⟨0, []⟩).fm then 74 else if i ≠ 0 ∧ (l.getD i ⟨0, []⟩).fm ≤ (l.getD (i - 1) ⟨0, []⟩).fm then 65 else if factB q (l.getD i ⟨0, []⟩) then 0 else 64
def unitsP (q : Pl) (l : List Un) : Int := if checkP q ≠ 0 then checkP q else if 60 < l.length then 1 else firstE (unitE q l) l.length
/-- The sum of products. -/
def dot : List Int → List Int → Int
  | w :: ws, f :: fs => w * f + dot ws fs
  | _, _ => 0
def scoreP (q : Pl) (u : Un) : Int := if checkP q ≠ 0 ∨ outP 1 60 u.fm = true ∨ factB q u = false then 0 else dot q.ws u.fs
def stratP (q : Pl) (x : Int) : Int := if checkP q ≠ 0 then 0 else (q.ls.countP fun y => decide (y ≤ x) : Nat)
theorem dot_take : ∀ (ws fs : List Int) (k : Nat) (h1 : k < ws.length) (h2 : k < fs.length), dot (ws.take (k + 1)) (fs.take (k + 1)) = dot (ws.take k) (fs.take k) + ws[k] * fs[k]
  | w :: ws, f :: fs, 0, _, _ => by simp [dot]
  | w :: ws, f :: fs, k + 1, h1, h2 => by
    have := dot_take ws fs k (by simpa using h1) (by simpa using h2)
    simp only [List.take_succ_cons, dot, List.getElem_cons_succ]
    omega
theorem any_out {lo hi : Int} {l : List Int} (h : l.any (outP lo hi) = false) : ∀ x ∈ l, lo ≤ x ∧ x ≤ hi := by
  intro x hx
  have := List.any_eq_false.1 h x hx
  simp [outP] at this
  omega
theorem dot_bd : ∀ (ws fs : List Int), (∀ x ∈ ws, 0 ≤ x ∧ x ≤ 100) → (∀ x ∈ fs, 0 ≤ x ∧ x ≤ 100) → 0 ≤ dot ws fs ∧ dot ws fs ≤ 10000 * (ws.length : Int)
  | [], fs, _, _ => by simp [dot]
  | w :: ws, [], _, _ => by simp [dot]; omega
  | w :: ws, f :: fs, h1, h2 => by
    have hw := h1 w (by simp)
    have hf := h2 f (by simp)
    have := dot_bd ws fs (fun x hx => h1 x (by simp [hx])) (fun x hx => h2 x (by simp [hx]))
    have h3 : 0 ≤ w * f := Int.mul_nonneg hw.1 hf.1
    have h4 : w * f ≤ 100 * 100 := Int.mul_le_mul hw.2 hf.2 hf.1 (by omega)
    simp only [dot, List.length_cons]
    omega
theorem checkP_or (q : Pl) : checkP q = 0 ∨ checkP q = 64 := by unfold checkP; split <;> simp
theorem checkP_zero {q : Pl} (h : checkP q = 0) : planB q = true := by
  unfold checkP at h
  split at h
  · assumption
  · omega
theorem planB_iff (q : Pl) : planB q = true ↔ (1 ≤ q.ws.length ∧ q.ws.length ≤ 6) ∧ q.ws.any (outP 0 100) = false ∧ q.ls.length ≤ 5 ∧ q.ls.any (outP 1 60000) = false ∧ q.ss.length = q.ls.length + 1 ∧ q.ss.any (outP 0 1000) = false ∧ outP 0 60 q.le = false ∧ outP 0 1000 q.ra = false ∧ ascN q.ls q.ls.length = true := by
  unfold planB
  simp only [Bool.and_eq_true, decide_eq_true_eq, Bool.not_eq_true']
  constructor
  · rintro ⟨⟨⟨⟨⟨⟨⟨⟨⟨a, b⟩, c⟩, d⟩, e⟩, f⟩, g⟩, h⟩, i⟩, j⟩
    exact ⟨⟨a, b⟩, c, d, e, f, g, h, i, j⟩
  · rintro ⟨⟨a, b⟩, c, d, e, f, g, h, i, j⟩
    exact ⟨⟨⟨⟨⟨⟨⟨⟨⟨a, b⟩, c⟩, d⟩, e⟩, f⟩, g⟩, h⟩, i⟩, j⟩
end Go.Proofs.Ytjmbdfoegnfpnaa
