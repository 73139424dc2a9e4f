/- Contract: slices.Equal of spans. -/
import Derived.Test.YtpcfhcdbibklcaaGreatS3
import Derived.Test.YtpcfhcdbibklcaaGreatR4
namespace Go.Proofs.YtpcfhcdbibklcaaGreat
open Go.RowKit Go.Shelf Go.Lib Go.Sort
set_option linter.unusedVariables false
set_option linter.unusedSimpArgs false

theorem sGuard (w : World) (x y : Operand) (op : BinOp) (xs ys : Array Value) : (eqGuard op 111 x y (.agg xs) (.agg ys)).run Tryz.prog w = .ok () w := run_eqGuard_agg w op _ x y xs ys (by kernel_rfl)
theorem sFields : Tryz.prog.fieldsOf 111 = #[{ name := "Left", type := 3, offset := 0, embedded := false, tag := "", pkgPath := "", byteOffset := 0 }, { name := "Right", type := 3, offset := 1, embedded := false, tag := "", pkgPath := "", byteOffset := 8 }] := by kernel_rfl
def sEq (a b a' b' : Int) : Bool := a == a' && b == b'
theorem sEqualIn (w : World) (k : Nat) (a b a' b' : Int) : (Op.equalIn (k + 2) 111 (.agg #[.int .i64 a, .int .i64 b]) (.agg #[.int .i64 a', .int .i64 b'])).run Tryz.prog w = .ok (sEq a b a' b') w := by
  have ci : Tryz.prog.cellsOf 3 = 1 := by kernel_rfl
  have h3 : ∀ (x y : Int) (w : World), (Op.equalIn (k + 1) 3 (.int .i64 x) (.int .i64 y)).run Tryz.prog w = .ok (x == y) w := fun x y w => run_equalIn_int w k 3 .i64 .i64 x y Tryz.underlying3
  rw [run_equalIn_agg w (k + 1) _ _ _ (by kernel_rfl) (by kernel_rfl), sFields]
  unfold sEq
  cases h1 : a == a' <;> cases h2 : b == b' <;> simp [Op.eqFields, go_sem, h3, h1, h2]
theorem s_neq (w : World) (a b a' b' : Int) : (binOp .neq 111 (.agg #[.int .i64 a, .int .i64 b]) (.agg #[.int .i64 a', .int .i64 b'])).run Tryz.prog w = .ok (.bool (!(sEq a b a' b'))) w := by
  rw [run_neq_struct, sEqualIn w 9998]
  rfl
theorem neqS : NeqAt Tryz.prog 111 (fun q : Sg Unit => .agg (encSp q).toArray) (fun o p => decide (o = p)) := by
  refine ⟨fun x y w => ?_, fun op a b x y w => sGuard w a b op _ _⟩
  have h := s_neq w x.1 x.2.1 y.1 y.2.1
  have e : sEq x.1 x.2.1 y.1 y.2.1 = decide (x = y) := by
    obtain ⟨a, b, ⟨⟩⟩ := x
    obtain ⟨c, d, ⟨⟩⟩ := y
    rw [Bool.eq_iff_iff]; simp [sEq]
  rw [e] at h
  exact h

set_option maxHeartbeats 1000000 in
theorem equalS_any (u v : Value) (l k : List (Sg Unit)) (w : World) (hA : SlS w u l) (hB : SlS w v k) :
    Calls Tryz.prog 85 #[u, v] w fun e w' => e = .returned (.bool (decide (l = k))) ∧ Below w.heap.size w w' := by
  obtain ⟨A, c, rfl, hc1, hm1, hl1⟩ := hA
  obtain ⟨B, d, rfl, hc2, hm2, hl2⟩ := hB
  have hn := Nat.le_trans hc1 hm1
  have hm := Nat.le_trans hc2 hm2
  unfold maxLen at hn hm
  by_cases hnm : l.length = k.length
  · rcases Nat.eq_zero_or_pos l.length with h0 | h0
    · obtain rfl : l = [] := List.length_eq_zero_iff.1 h0
      obtain rfl : k = [] := List.length_eq_zero_iff.1 (by omega)
      clear hl1 hl2
      go_enter Tryz.func85, Tryz.ntmps85
      go_wp2
      go_loop [13] (fun i => i = .int .i64 0) (fun _ => 0)
      case atStart => rfl
      case round =>
        subst hrel
        go_wp2
        go_ret
        exact ⟨rfl, Below.refl _ _⟩
    · obtain ⟨b1, o1, rfl, hb1, hcc1⟩ := hl1.resolve_left (by omega)
      obtain ⟨b2, o2, rfl, hb2, hcc2⟩ := hl2.resolve_left (by omega)
      have cells : ∀ (l : List (Sg Unit)) (b o : Nat), (∀ j u, (sCells l)[j]? = some u → w.cell? ⟨b, o + j, none⟩ = some u) → ∀ j, j < l.length → ∀ i v, (encSp l[j]!)[i]? = some v → w.cell? ⟨b, o + j * 2 + i, none⟩ = some v := by
        intro l b o hc j hj i v hv
        obtain ⟨h0, h1⟩ := sCells_at l j hj
        rw [getElem!_pos l j hj] at hv
        have hi : i < 2 := by
          rcases Nat.lt_or_ge i 2 with h | h
          · exact h
          · rw [List.getElem?_eq_none (by simpa [encSp] using h)] at hv; cases hv
        rcases (show i = 0 ∨ i = 1 by omega) with rfl | rfl
        · simp [encSp] at hv; subst hv; exact hc _ _ h0
        · simp [encSp] at hv; subst hv; rw [Nat.add_assoc]; exact hc _ _ h1
      refine (AnyQ.slices_Equal Tryz.layEqualSpan 2 Tryz.isAgg111 Tryz.sizeOf111 encSp (fun _ => rfl) (fun o p => decide (o = p)) neqS b1 o1 l.length c b2 o2 k.length d l k w (Nat.le_refl _) (Nat.le_refl _) (by omega) (by omega) (cells l b1 o1 hcc1) (cells k b2 o2 hcc2)).mono ?_
      rintro e w' ⟨rfl, q, rfl⟩
      refine ⟨?_, below_drewN (Below.refl _ _) q⟩
      rw [List.take_of_length_le (Nat.le_refl _), List.take_of_length_le (Nat.le_refl _), allEq_dec]
  · clear hl1 hl2
    have hnm' : ¬ (l.length : Int) = (k.length : Int) := by omega
    have Hne : Hid (¬ l = k) := Lib.hid (fun e => hnm (by rw [e]))
    go_enter Tryz.func85, Tryz.ntmps85
    go_wp2
    go_ret
    exact ⟨ret_bool (by simpa using Hne.out), Below.refl _ _⟩
end Go.Proofs.YtpcfhcdbibklcaaGreat
