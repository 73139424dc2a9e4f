/- Contract: Choose (regions). -/
import Derived.Test.YtabcadpfhachoaaU2
import Derived.Test.YtabcadpfhachoaaR7
namespace Go.Proofs.Ytabcadpfhachoaa
open Go.RowKit
set_option linter.unusedVariables false
set_option linter.unusedSimpArgs false

/-- A function of two truth values that changes nothing. -/
def BoolFn (f : Nat) (lb : Array Value) (how : Bool → Bool → Bool) (w : World) : Prop :=
  ∀ W x y, Below w.heap.size w W → Calls Try.prog f (#[.bool x, .bool y] ++ lb) W fun e w' => e = .returned (.bool (how x y)) ∧ Below W.heap.size W w'
theorem BoolFn.below {f : Nat} {lb : Array Value} {how : Bool → Bool → Bool} {w w' : World} (h : BoolFn f lb how w) (hb : Below w.heap.size w w') : BoolFn f lb how w' := fun W x y hW => h W x y (hb.trans (hW.mono hb.size))
/-- The three boxes that Choose makes. -/
structure ChB (W : World) (g : Nat) (A : Option Addr) (n c : Nat) (B : Option Addr) (m d f : Nat) (lb : Array Value) : Prop where
  size : g + 1 + 1 < W.heap.size
  c0 : W.cell? ⟨g, 0, none⟩ = some (.slice A n c)
  c1 : W.cell? ⟨g + 1, 0, none⟩ = some (.slice B m d)
  c2 : W.cell? ⟨g + 1 + 1, 0, none⟩ = some (.func (.func f) #[] lb)
theorem ChB.below {W W' : World} {g : Nat} {A : Option Addr} {n c : Nat} {B : Option Addr} {m d f : Nat} {lb : Array Value} (h : ChB W g A n c B m d f lb) (hb : Below W.heap.size W W') : ChB W' g A n c B m d f lb :=
  have hs := h.size
  ⟨Nat.lt_of_lt_of_le h.size hb.size, (hb.cell (p := ⟨g, 0, none⟩) (by show g < _; omega)).trans h.c0, (hb.cell (p := ⟨g + 1, 0, none⟩) (by show g + 1 < _; omega)).trans h.c1, (hb.cell (p := ⟨g + 1 + 1, 0, none⟩) h.size).trans h.c2⟩

end Go.Proofs.Ytabcadpfhachoaa
