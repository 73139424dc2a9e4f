/- Contracts: Grow and Concat of spans (the library's slices); ContainsFunc of spans; region's inside. -/
import Derived.Test.YtabcadpfhachoaaS4
import Derived.Test.YtabcadpfhachoaaR3
import Derived.Outline
import Derived.Lib.AppendZerosOnto
namespace Go.Proofs.Ytabcadpfhachoaa
open Go.RowKit Go.Shelf Go.Lib Go.Sort
set_option linter.unusedVariables false
set_option linter.unusedSimpArgs false

theorem sCells_app (a b : List (Sg Unit)) : sCells (a ++ b) = sCells a ++ sCells b := by simp [sCells]
theorem sCells_one (l : List (Sg Unit)) : ∀ u ∈ sCells l, u.oneCell' = true := by
  intro u hu
  simp only [sCells, List.mem_flatMap] at hu
  obtain ⟨s, _, hu⟩ := hu
  simp [encSp] at hu
  rcases hu with rfl | rfl <;> rfl

/-- A row of spans of one's own. -/
def SpPost (w : World) (l : List (Sg Unit)) (e : Ending) (w' : World) : Prop := ∃ v, e = .returned v ∧ w'.ownsRow w.heap.size 96 2 v l.length (sCells l) ∧ Below w.heap.size w w'

/-- How many spans the first of two slices have, and which. -/
def lenS2 (n m : Nat) : Nat → Nat
  | 0 => 0
  | 1 => n
  | _ => n + m
def catS2 (xs ys : List (Sg Unit)) : Nat → List (Sg Unit)
  | 0 => []
  | 1 => [] ++ xs
  | _ => ([] ++ xs) ++ ys
theorem SlS.reads {w : World} {A : Option Addr} {n c : Nat} {l : List (Sg Unit)} (h : SlS w (.slice A n c) l) : n = l.length ∧ Reads w w.heap.size 2 A l.length (sCells l) ∧ n ≤ c ∧ c ≤ maxLen := by
  obtain ⟨A', c', he, h1, h2, h3⟩ := h
  injection he with e1 e2 e3
  subst e1 e2 e3
  exact ⟨rfl, h3.reads (sCells_len l), h1, h2⟩

set_option maxHeartbeats 1000000 in
theorem containsS_any (p : Sg Unit → Bool) (f : Nat) (lb : Array Value) (eg : ∀ args w, (callFunc f args).run Try.prog w = .ok (.enter f args) w) (u : Value) (l : List (Sg Unit)) (w : World) (hA : SlS w u l)
    (hp : PredBelow Try.prog f lb (fun q : Sg Unit => .agg (encSp q).toArray) p w) :
    Calls Try.prog 68 #[u, .func (.func f) #[] lb] w fun e w' => e = .returned (.bool (l.any p)) ∧ Below w.heap.size w w' := by
  obtain ⟨A, c, rfl, hc1, hm1, hl1⟩ := hA
  have hn := Nat.le_trans hc1 hm1
  unfold maxLen at hn
  rcases Nat.eq_zero_or_pos l.length with h0 | h0
  · obtain rfl : l = [] := List.length_eq_zero_iff.1 h0
    clear hl1 hp eg
    go_enter Try.func68, Try.ntmps68
    go_wp2
    go_loop [8] (fun i => i = .int .i64 0) (fun _ => 0)
    case atStart => rfl
    case round =>
      subst hrel
      go_wp2
      go_ret
      exact ⟨rfl, Below.refl _ _⟩
  · obtain ⟨b1, o1, rfl, hb1, hcc1⟩ := hl1.resolve_left (by omega)
    refine (AnyQ.slices_ContainsFunc Try.layContainsSpan 2 Try.isAgg96 Try.sizeOf96 encSp (fun _ => rfl) p f lb eg b1 o1 l.length c l w hp (by omega) (by omega) hb1 ?_).mono ?_
    · intro j hj i v hv
      obtain ⟨h0, h1⟩ := sCells_at l j hj
      rw [getElem!_pos l j hj] at hv
      have hi : i < 2 := by
        rcases Nat.lt_or_ge i 2 with h | h
        · exact h
        · rw [List.getElem?_eq_none (by simpa [encSp] using h)] at hv; cases hv
      rcases (show i = 0 ∨ i = 1 by omega) with rfl | rfl
      · simp [encSp] at hv; subst hv; exact hcc1 _ _ h0
      · simp [encSp] at hv; subst hv; rw [Nat.add_assoc]; exact hcc1 _ _ h1
    · rintro e w' ⟨rfl, hb⟩
      rw [List.take_of_length_le (by omega)]
      exact ⟨rfl, hb⟩

end Go.Proofs.Ytabcadpfhachoaa
