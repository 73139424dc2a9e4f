/- A region that draws its order, whose operations read and whose calls may make memory of their own: walked once, in a class of worlds. -/
import Derived.Test.YtpcfhcdbibklcaaGreatB
namespace Go.Proofs.YtpcfhcdbibklcaaGreat
open Go.RowKit
set_option linter.unusedVariables false

theorem wp_region_below {P : Program} {id : Nat} {Q : Exit → Act → World → Prop} {a : Act} {W : World} {l : List Oper} (B : Nat) (hB : B ≤ W.heap.size) (hm : P.follows .mixedOrders = true) (hl : Region.lexB .any l.toArray = true)
    (h : ∀ (I : Type) [Nonempty I] (F : I → World), (∀ i b o, b < B → (F i).cell? ⟨b, o, none⟩ = W.cell? ⟨b, o, none⟩) → (∀ i, Below B W (F i)) → (∀ w', Below B W w' → ∃ i, w' = F i) →
      wpQuiet P l.toArray (fun w' => ∃ i, w' = F i) (fun a' => ∀ w', (∃ i, w' = F i) → Q .normal a' w') l a) : (Code.region id l.toArray true).wp P Q a W := by
  have ne : Nonempty { w' : World // Below B W w' } := ⟨⟨W, Below.refl B W⟩⟩
  have h0 := h { w' : World // Below B W w' } (fun x => x.val) (fun i b o hb => i.property.cell (p := ⟨b, o, none⟩) hb) (fun i => i.property) (fun w' hw => ⟨⟨w', hw⟩, rfl⟩)
  exact wp_region_quiet (C := fun w' => ∃ i : { w' : World // Below B W w' }, w' = i.val) hm hl ⟨⟨{ W with drawn := W.drawn + 1 }, (Below.drew (Below.refl B W))⟩, rfl⟩ (by simpa using h0)
/-- A contract that says that nothing old has changed, in the class. -/
theorem class_call {P : Program} {f : FuncId} {args : Array Value} {B : Nat} {W : World} {I : Type} {F : I → World} {i : I} {v : Value} (hb : ∀ i, Below B W (F i)) (hs : ∀ w', Below B W w' → ∃ i, w' = F i)
    (hB : B ≤ W.heap.size) (h : Calls P f args (F i) fun e w' => e = .returned v ∧ Below (F i).heap.size (F i) w') : Calls P f args (F i) fun e w'' => e = .returned v ∧ ∃ j, w'' = F j :=
  h.mono fun _ _ ⟨he, hw⟩ => ⟨he, hs _ ((hb i).trans (hw.mono (Nat.le_trans hB (hb i).size)))⟩
/-- .. that the world is as it was. -/
theorem class_same {P : Program} {f : FuncId} {args : Array Value} {I : Type} {F : I → World} {i : I} {v : Value}
    (h : Calls P f args (F i) fun e w' => e = .returned v ∧ F i = w') : Calls P f args (F i) fun e w'' => e = .returned v ∧ ∃ j, w'' = F j :=
  h.mono fun _ _ ⟨he, hw⟩ => ⟨he, i, hw.symm⟩
end Go.Proofs.YtpcfhcdbibklcaaGreat
