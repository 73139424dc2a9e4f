/- Contracts: Size, Area, Has (regions), Rects (their reference). -/
import Derived.Test.YtpcfhcdbibklcaaGreatR7
namespace Go.Proofs.YtpcfhcdbibklcaaGreat
open Go.RowKit
set_option linter.unusedVariables false
set_option linter.unusedSimpArgs false

/-- How many squares rectangles have that do not overlap. -/
def sizeP (l : List R4) : Int := l.foldl (fun s q => s + (q.r - q.l) * (q.t - q.b)) 0
theorem sizeP_succ (l : List R4) (k : Nat) (h : k < l.length) : sizeP (l.take (k + 1)) = sizeP (l.take k) + (l[k].r - l[k].l) * (l[k].t - l[k].b) := by
  unfold sizeP
  rw [List.take_succ_eq_append_getElem h, List.foldl_append]
  rfl
theorem area1_bd {q : R4} (h : q.ok = true) : 0 ≤ (q.r - q.l) * (q.t - q.b) ∧ (q.r - q.l) * (q.t - q.b) ≤ 268435456 := by
  have h1 := (R4.ok_iff q).1 h
  refine ⟨Int.mul_nonneg (by omega) (by omega), ?_⟩
  calc (q.r - q.l) * (q.t - q.b) ≤ 16384 * 16384 := Int.mul_le_mul (by omega) (by omega) (by omega) (by omega)
    _ = 268435456 := rfl

/-- How many squares a region has. -/
def areaP (l : List R4) : Int := if validP l then sizeP l else 0
theorem valid_parts {l : List R4} (h : validP l = true) : l.length ≤ 120 ∧ l.all R4.ok = true ∧ canonP l = l := by
  simp only [validP, Bool.and_eq_true, decide_eq_true_eq] at h
  exact ⟨h.1.1, h.1.2, h.2⟩

/-- Whether a region has a square. -/
def hasP (l : List R4) (x y : Int) : Bool := validP l && inL l x y
end Go.Proofs.YtpcfhcdbibklcaaGreat
