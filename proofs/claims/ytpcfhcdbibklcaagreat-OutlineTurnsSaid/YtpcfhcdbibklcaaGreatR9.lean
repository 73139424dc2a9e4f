/- Contract: the law's sanity check (regions). -/
import Derived.Test.YtpcfhcdbibklcaaGreatR8
namespace Go.Proofs.YtpcfhcdbibklcaaGreat
open Go.RowKit
set_option linter.unusedVariables false
set_option linter.unusedSimpArgs false

theorem awake_of : ofP [⟨0, 0, 2, 1⟩, ⟨1, 0, 3, 2⟩] = ([⟨0, 0, 3, 1⟩, ⟨1, 1, 3, 2⟩], 0) := by
  rw [ofP_eq]
  decide
theorem awake_valid : validP [⟨0, 0, 3, 1⟩, ⟨1, 1, 3, 2⟩] = true := by
  have h : ∀ q ∈ [(⟨0, 0, 3, 1⟩ : R4), ⟨1, 1, 3, 2⟩], q.l < q.r := by decide
  unfold validP
  rw [canonP_comb _ h]
  decide
theorem awake_area : areaP [⟨0, 0, 3, 1⟩, ⟨1, 1, 3, 2⟩] = 5 := by unfold areaP; rw [awake_valid]; decide
theorem awake_has : hasP [⟨0, 0, 3, 1⟩, ⟨1, 1, 3, 2⟩] 2 1 = true := by unfold hasP; rw [awake_valid]; decide
theorem awake_hasnt : hasP [⟨0, 0, 3, 1⟩, ⟨1, 1, 3, 2⟩] 0 1 = false := by unfold hasP; rw [awake_valid]; decide

theorem SlR.lit (w : World) (t : TypeId) (cs : Array Value) (l : List R4) (n B : Nat) (hB : B = w.heap.size) (hn : l.length = n) (hn1 : n ≤ 1000) (hc : rCells l = cs.toList) : SlR (w.alloc (.cells cs t)) (some ⟨B, 0, none⟩) n n l :=
  ⟨hn, Nat.le_refl _, by unfold maxLen; omega, Lies.new w t cs n _ hc B hB⟩

end Go.Proofs.YtpcfhcdbibklcaaGreat
