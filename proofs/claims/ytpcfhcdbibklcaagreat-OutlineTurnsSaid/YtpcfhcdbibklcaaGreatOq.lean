/- How an argument that can be read is opened: a slice of integers. -/
import Derived.Test.YtpcfhcdbibklcaaGreatB
import Derived.ProofKit
namespace Go.Proofs.YtpcfhcdbibklcaaGreat
open Go.ChangeShapes Go.WideShapes Go.ChangeAt Go.RowKit
set_option linter.unusedVariables false

theorem open_lies {H : Type} {enc : TypeId × Value → H} {P : Program} {W : World} {r : Reach} {base : Nat} {t e : TypeId} {k : IntKind} {v : Value} {d : DataW H} {p : List MemPlace}
    (ht : P.underlying t = some (.slice e)) (he : P.underlying e = some (.int k)) (hC : P.cellsOf e = 1) (hv : Value.okWide P W r base t v) (h : DataW.Trod enc P W 0 (fun _ => true) true t v d p) :
    ∃ (A : Option Addr) (n c : Nat) (zs : List Int), v = .slice A n c ∧ zs.length = n ∧ (n ≤ c ∧ c ≤ maxLen) ∧ Lies W A n (zs.map (.int k)) ∧ ∀ z ∈ zs, (Lit.int k z).wf = true := by
  obtain ⟨A, n, c, rfl⟩ := okWide_slice ht hv
  obtain ⟨fuel, hf⟩ := h
  rcases open_ints ht he hC hf with ⟨hcs, _⟩ | ⟨x, l, c', zs, hcs, _, hl, hm, hz, _, hcell, hwz⟩
  · simp [Value.cells] at hcs
    obtain ⟨rfl, rfl, rfl⟩ := hcs
    exact ⟨none, 0, 0, [], rfl, rfl, ⟨Nat.le_refl _, Nat.zero_le _⟩, .inl rfl, fun z hz => by cases hz⟩
  · simp [Value.cells] at hcs
    obtain ⟨rfl, rfl, rfl⟩ := hcs
    have hz' : zs.length = c := by simpa using hz
    refine ⟨some x, n, c, zs.take n, rfl, by rw [List.length_take]; omega, ⟨hl, hm⟩, ?_, fun z hz => hwz z (List.mem_of_mem_take hz)⟩
    by_cases h0 : n = 0
    · exact .inl h0
    · obtain ⟨b, off, spot⟩ := x
      have hc0 := hcell 0 (by omega)
      have hspot : spot = none := by simpa [Addr.add] using World.cell?_spot hc0
      subst hspot
      have hb := World.block_lt_of_cell? W _ hc0
      rw [add_none] at hb
      refine .inr ⟨b, off, rfl, hb, fun j u hu => ?_⟩
      have hj : j < n := by
        rcases Nat.lt_or_ge j n with h | h
        · exact h
        · rw [List.getElem?_eq_none (by simp; omega)] at hu; cases hu
      have := hcell j (by omega)
      rw [add_none] at this
      rw [this]
      rw [List.getElem?_map, List.getElem?_take, if_pos hj] at hu
      rw [List.getElem?_eq_getElem (by omega)] at hu
      rw [List.getD_eq_getElem?_getD, List.getElem?_eq_getElem (by omega)]
      simpa using hu
end Go.Proofs.YtpcfhcdbibklcaaGreat
