/- Contracts of the library that regions lean on: slices.Equal of rectangles and of spans, slices.ContainsFunc of rectangles. -/
import Derived.Test.YtpcfhcdbibklcaaGreatS2
import Derived.Test.YtpcfhcdbibklcaaGreatF1
namespace Go.Proofs.YtpcfhcdbibklcaaGreat
open Go.RowKit Go.Shelf Go.Lib Go.Sort
set_option linter.unusedVariables false
set_option linter.unusedSimpArgs false

theorem neqR : NeqAt Tryz.prog 58 (fun q : R4 => .agg (R4.cells q).toArray) (fun o p => decide (o = p)) := by
  refine ⟨fun x y w => ?_, fun op a b x y w => rGuard w a b op _ _⟩
  have h := r_neq w x.l x.b x.r x.t y.l y.b y.r y.t
  have e : rEq x.l x.b x.r x.t y.l y.b y.r y.t = decide (x = y) := by
    rw [Bool.eq_iff_iff, rEq_iff]; simp
  rw [e] at h
  exact h
theorem allEq_dec {α : Type} [Inhabited α] [DecidableEq α] : ∀ (l m : List α), allEq (fun o p : α => decide (o = p)) l m = decide (l = m)
  | [], [] => by simp [allEq]
  | [], y :: ys => by simp [allEq]
  | x :: xs, [] => by simp [allEq]
  | x :: xs, y :: ys => by simp [allEq, allEq_dec xs ys]

set_option maxHeartbeats 1000000 in
theorem equalR_any (A B : Option Addr) (n c m d : Nat) (l k : List R4) (w : World) (hA : SlR w A n c l) (hB : SlR w B m d k) :
    Calls Tryz.prog 67 #[.slice A n c, .slice B m d] w fun e w' => e = .returned (.bool (decide (l = k))) ∧ Below w.heap.size w w' := by
  have hx := hA.len
  have hy := hB.len
  have hn := Nat.le_trans hA.cap hA.top
  have hm := Nat.le_trans hB.cap hB.top
  unfold maxLen at hn hm
  by_cases hnm : n = m
  · subst hnm
    rcases Nat.eq_zero_or_pos n with h0 | h0
    · subst h0
      obtain rfl : l = [] := List.length_eq_zero_iff.1 hx
      obtain rfl : k = [] := List.length_eq_zero_iff.1 hy
      clear hA hB
      go_enter Tryz.func67, Tryz.ntmps67
      go_wp2
      go_loop [13] (fun i => i = .int .i64 0) (fun _ => 0)
      case atStart => rfl
      case round =>
        subst hrel
        go_wp2
        go_ret
        exact ⟨rfl, Below.refl _ _⟩
    · obtain ⟨b1, o1, rfl, hb1, hc1⟩ := hA.lies.resolve_left (by omega)
      obtain ⟨b2, o2, rfl, hb2, hc2⟩ := hB.lies.resolve_left (by omega)
      have cells : ∀ (l : List R4) (b o : Nat), (∀ j u, (rCells l)[j]? = some u → w.cell? ⟨b, o + j, none⟩ = some u) → ∀ j, j < l.length → ∀ i v, (R4.cells l[j]!)[i]? = some v → w.cell? ⟨b, o + j * 4 + i, none⟩ = some v := by
        intro l b o hc j hj i v hv
        obtain ⟨h0, h1, h2, h3⟩ := rCells_at l j hj
        rw [getElem!_pos l j hj] at hv
        have hi : i < 4 := by
          rcases Nat.lt_or_ge i 4 with h | h
          · exact h
          · rw [List.getElem?_eq_none (by simpa [R4.cells] using h)] at hv; cases hv
        rcases (show i = 0 ∨ i = 1 ∨ i = 2 ∨ i = 3 by omega) with rfl | rfl | rfl | rfl
        · simp [R4.cells] at hv; subst hv; exact hc _ _ h0
        · simp [R4.cells] at hv; subst hv; rw [Nat.add_assoc]; exact hc _ _ h1
        · simp [R4.cells] at hv; subst hv; rw [Nat.add_assoc]; exact hc _ _ h2
        · simp [R4.cells] at hv; subst hv; rw [Nat.add_assoc]; exact hc _ _ h3
      refine (AnyQ.slices_Equal Tryz.layEqualRect 4 Tryz.isAgg58 Tryz.sizeOf58 R4.cells (fun _ => rfl) (fun o p => decide (o = p)) neqR b1 o1 n c b2 o2 n d l k w (by omega) (by omega) (by omega) (by omega) (cells l b1 o1 hc1) (cells k b2 o2 hc2)).mono ?_
      rintro e w' ⟨rfl, q, rfl⟩
      refine ⟨?_, below_drewN (Below.refl _ _) q⟩
      rw [List.take_of_length_le (by omega), List.take_of_length_le (by omega), allEq_dec]
  · clear hA hB
    go_enter Tryz.func67, Tryz.ntmps67
    go_wp2
    go_ret
    exact ⟨ret_bool (by simp; intro e; rw [e] at hx; omega), Below.refl _ _⟩

set_option maxHeartbeats 1000000 in
theorem containsR_any (p : R4 → Bool) (f : Nat) (lb : Array Value) (eg : ∀ args w, (callFunc f args).run Tryz.prog w = .ok (.enter f args) w) (A : Option Addr) (n c : Nat) (l : List R4) (w : World) (hA : SlR w A n c l)
    (hp : PredBelow Tryz.prog f lb (fun q : R4 => .agg (R4.cells q).toArray) p w) :
    Calls Tryz.prog 64 #[.slice A n c, .func (.func f) #[] lb] w fun e w' => e = .returned (.bool (l.any p)) ∧ Below w.heap.size w w' := by
  have hx := hA.len
  have hn := Nat.le_trans hA.cap hA.top
  unfold maxLen at hn
  rcases Nat.eq_zero_or_pos n with h0 | h0
  · subst h0
    obtain rfl : l = [] := List.length_eq_zero_iff.1 hx
    clear hA hp eg
    go_enter Tryz.func64, Tryz.ntmps64
    go_wp2
    go_loop [8] (fun i => i = .int .i64 0) (fun _ => 0)
    case atStart => rfl
    case round =>
      subst hrel
      go_wp2
      go_ret
      exact ⟨rfl, Below.refl _ _⟩
  · obtain ⟨b1, o1, rfl, hb1, hc1⟩ := hA.lies.resolve_left (by omega)
    refine (AnyQ.slices_ContainsFunc Tryz.layContainsRect 4 Tryz.isAgg58 Tryz.sizeOf58 R4.cells (fun _ => rfl) p f lb eg b1 o1 n c l w hp (by omega) (by omega) hb1 ?_).mono ?_
    · intro j hj i v hv
      obtain ⟨h0, h1, h2, h3⟩ := rCells_at l j hj
      rw [getElem!_pos l j hj] at hv
      have hi : i < 4 := by
        rcases Nat.lt_or_ge i 4 with h | h
        · exact h
        · rw [List.getElem?_eq_none (by simpa [R4.cells] using h)] at hv; cases hv
      rcases (show i = 0 ∨ i = 1 ∨ i = 2 ∨ i = 3 by omega) with rfl | rfl | rfl | rfl
      · simp [R4.cells] at hv; subst hv; exact hc1 _ _ h0
      · simp [R4.cells] at hv; subst hv; rw [Nat.add_assoc]; exact hc1 _ _ h1
      · simp [R4.cells] at hv; subst hv; rw [Nat.add_assoc]; exact hc1 _ _ h2
      · simp [R4.cells] at hv; subst hv; rw [Nat.add_assoc]; exact hc1 _ _ h3
    · rintro e w' ⟨rfl, hb⟩
      rw [List.take_of_length_le (by omega)]
      exact ⟨rfl, hb⟩
end Go.Proofs.YtpcfhcdbibklcaaGreat
