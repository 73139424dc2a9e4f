/- Boxes of regions; the laws of sets as equations that a walk uses (regions). -/
import Derived.Test.YtpcfhcdbibklcaaGreatU4
import Derived.Test.YtpcfhcdbibklcaaGreatR9
import Derived.Test.YtpcfhcdbibklcaaGreatF5
namespace Go.Proofs.YtpcfhcdbibklcaaGreat
open Go.RowKit
set_option linter.unusedVariables false
set_option linter.unusedSimpArgs false

/-- A region in a block. -/
structure Bx where
  g : Nat
  A : Option Addr
  n : Nat
  c : Nat
  l : List R4
structure RB (W : World) (x : Bx) : Prop where
  b : W.heap[x.g]? = some (.cells #[.slice x.A x.n x.c] 25 (0, 0))
  sl : SlR W x.A x.n x.c x.l
theorem RB.lt {W : World} {x : Bx} (h : RB W x) : x.g < W.heap.size := by
  rcases Nat.lt_or_ge x.g W.heap.size with h1 | h1
  · exact h1
  · have := h.b; rw [Array.getElem?_eq_none h1] at this; cases this
theorem RB.below {W W' : World} {x : Bx} (h : RB W x) (hb : Below W.heap.size W W') : RB W' x := ⟨(hb.block _ h.lt).trans h.b, h.sl.below hb⟩
theorem RB.c0 {W : World} {x : Bx} (h : RB W x) : W.cell? ⟨x.g, 0, none⟩ = some (.slice x.A x.n x.c) := cell_of_row _ _ 0 _ _ _ h.b
/-- Regions in blocks. -/
def RBs (W : World) (L : List Bx) : Prop := ∀ x ∈ L, RB W x
theorem RBs.below {W W' : World} {L : List Bx} (h : RBs W L) (hb : Below W.heap.size W W') : RBs W' L := fun x hx => (h x hx).below hb
/-- One more, in a new block. -/
theorem RBs.push {W : World} {L : List Bx} (h : RBs W L) (D : Option Addr) (n c : Nat) (l : List R4) (hs : SlR W D n c l) : RBs (W.alloc (.cells #[.slice D n c] 25)) (⟨W.heap.size, D, n, c, l⟩ :: L) := by
  intro x hx
  rcases List.mem_cons.1 hx with rfl | hx
  · exact ⟨heap_alloc_new W _, hs.below (by repeat' (first | with_reducible exact Below.refl _ _ | with_reducible refine below_drewN ?_ _ | with_reducible refine Below.drew ?_ | with_reducible refine Below.alloc ?_ ?_ _ | with_reducible refine Below.setCell ?_ ?_ _ | with_reducible refine Below.trans ?_ (Below.mono (by with_reducible assumption) ?_) | (simp; done) | (simp; omega) | omega))⟩
  · exact (h x hx).below (by repeat' (first | with_reducible exact Below.refl _ _ | with_reducible refine below_drewN ?_ _ | with_reducible refine Below.drew ?_ | with_reducible refine Below.alloc ?_ ?_ _ | with_reducible refine Below.setCell ?_ ?_ _ | with_reducible refine Below.trans ?_ (Below.mono (by with_reducible assumption) ?_) | (simp; done) | (simp; omega) | omega))

theorem sumI_bd (g : Int → Int) (k : Int) (hk : 0 ≤ k) (hg : ∀ x, 0 ≤ g x ∧ g x ≤ k) : ∀ (n : Nat) (lo : Int), 0 ≤ sumI g lo n ∧ sumI g lo n ≤ n * k
  | 0, lo => by simp [sumI]
  | n + 1, lo => by
    have h1 := sumI_bd g k hk hg n (lo + 1)
    have h2 := hg lo
    simp only [sumI]
    rw [show ((n + 1 : Nat) : Int) = (n : Int) + 1 from by omega, Int.add_mul]
    omega
theorem Reg.area_bd {s m : Nat} {l : List R4} (h : Reg s m l) (hs : s ≤ 10) (hm : m ≤ 120) : 0 ≤ areaP l ∧ areaP l ≤ s * s := by
  obtain ⟨h1, h2⟩ := h.area hs hm
  rw [h1, ← h2]
  have h3 := sumI_bd (fun x => sumI (fun y => ind (inL l x y)) 0 s) ((s : Int) * 1) (by omega) (fun x => sumI_bd (fun y => ind (inL l x y)) 1 (by omega) (fun y => by unfold ind; split <;> omega) s 0) s 0
  rw [Int.mul_one] at h3
  exact h3
/-- What the regions of RegionSets are. -/
structure SetsE (a b c ab bc left bo rest x : List R4) : Prop where
  e1 : combineP orB a b = (ab, 0)
  e2 : combineP orB b a = (ab, 0)
  e3 : combineP orB b c = (bc, 0)
  e4 : combineP orB ab c = (left, 0)
  e5 : combineP orB a bc = (left, 0)
  e6 : combineP andB a b = (bo, 0)
  e7 : combineP orB a bo = (a, 0)
  e8 : combineP notB c ab = (rest, 0)
  e9 : combineP notB c a = (x, 0)
  e10 : combineP notB x b = (rest, 0)
  area : areaP a + areaP b = areaP ab + areaP bo
  bda : 0 ≤ areaP a ∧ areaP a ≤ 64
  bdb : 0 ≤ areaP b ∧ areaP b ≤ 64
  bdc : 0 ≤ areaP ab ∧ areaP ab ≤ 64
  bdd : 0 ≤ areaP bo ∧ areaP bo ≤ 64
theorem sets_all {a b c : List R4} (ha : Reg (8 : Nat) 15 a) (hb : Reg (8 : Nat) 15 b) (hc : Reg (8 : Nat) 15 c) : ∃ ab bc left bo rest x, SetsE a b c ab bc left bo rest x := by
  obtain ⟨l1, l2, l3, l4⟩ := sets_law ha.ins hb.ins hc.ins ha.canon
  have hab := choose_reg orB rfl 8 ha.ins hb.ins
  have hbc := choose_reg orB rfl 8 hb.ins hc.ins
  have hbo := choose_reg andB rfl 8 ha.ins hb.ins
  have hx := choose_reg notB rfl 8 hc.ins ha.ins
  refine ⟨_, _, _, _, _, _, combine_reg orB rfl 8 15 15 (by omega) (by omega) (by omega) ha hb, by rw [l1]; exact combine_reg orB rfl 8 15 15 (by omega) (by omega) (by omega) hb ha, combine_reg orB rfl 8 15 15 (by omega) (by omega) (by omega) hb hc, combine_reg orB rfl 8 (8 * 8) 15 (by omega) (by omega) (by omega) hab hc, by rw [l2]; exact combine_reg orB rfl 8 15 (8 * 8) (by omega) (by omega) (by omega) ha hbc, combine_reg andB rfl 8 15 15 (by omega) (by omega) (by omega) ha hb, ?_, combine_reg notB rfl 8 15 (8 * 8) (by omega) (by omega) (by omega) hc hab, combine_reg notB rfl 8 15 15 (by omega) (by omega) (by omega) hc ha, by rw [l4]; exact combine_reg notB rfl 8 (8 * 8) 15 (by omega) (by omega) (by omega) hx hb, area_law 8 15 15 (by omega) (by omega) (by omega) ha hb, ?_, ?_, ?_, ?_⟩
  · have := combine_reg orB rfl 8 15 (8 * 8) (by omega) (by omega) (by omega) ha hbo
    rw [l3] at this
    exact this
  · have := ha.area_bd (by omega) (by omega); omega
  · have := hb.area_bd (by omega) (by omega); omega
  · have := hab.area_bd (by omega) (by omega); omega
  · have := hbo.area_bd (by omega) (by omega); omega
theorem tape_reg8 (r : List Int) : Reg (8 : Nat) 15 (mkReg r 8 3).1 := mkReg_reg r 8 3 (by omega) (by omega) (by omega) (by omega)
end Go.Proofs.YtpcfhcdbibklcaaGreat
