/- Contracts: comparisons of tickets, and sorting by them (draw's Sample). -/
import Derived.Test.YtjmbdfoegnfpnaaSh
import Derived.Test.YtjmbdfoegnfpnaaD1
import Derived.Lib.OwnBridge
import Derived.Sort.OwnSortedInts
namespace Go.Proofs.Ytjmbdfoegnfpnaa
open Go.RowKit
set_option linter.unusedVariables false
set_option linter.unusedSimpArgs false

theorem isNaNU_any (x : Int) (w : World) : Calls Try.prog 67 #[.int .u64 x] w fun e w' => e = .returned (.bool false) ∧ w' = w := by
  go_enter Try.func67, Try.ntmps67
  go_wp2
  go_ret
  exact ⟨rfl, rfl⟩
theorem cmpU_any (x y : Int) (w : World) : Calls Try.prog 57 #[.int .u64 x, .int .u64 y] w fun e w' => e = .returned (.int .i64 (Lib.compareInt x y)) ∧ w' = w := by
  obtain ⟨c, hc⟩ : ∃ c, Lib.compareInt x y = c := ⟨_, rfl⟩
  rw [hc]
  have Hc := Lib.hid hc
  clear hc
  by_cases h1 : x < y
  · have hR : c = -1 := by rw [← Hc.out]; simp [Lib.compareInt, h1]
    subst hR
    go_enter Try.func57, Try.ntmps57
    go_wp2_with (first | (go_at_call 67; refine (isNaNU_any _ _).mono ?_; rintro e w1 ⟨rfl, rfl⟩) | fail)
    go_ret
    exact ⟨rfl, rfl⟩
  · by_cases h2 : y < x
    · have hR : c = 1 := by rw [← Hc.out]; simp [Lib.compareInt, h1, h2]
      subst hR
      go_enter Try.func57, Try.ntmps57
      go_wp2_with (first | (go_at_call 67; refine (isNaNU_any _ _).mono ?_; rintro e w1 ⟨rfl, rfl⟩) | fail)
      go_ret
      exact ⟨rfl, rfl⟩
    · have hR : c = 0 := by rw [← Hc.out]; simp [Lib.compareInt, h1, h2]
      subst hR
      go_enter Try.func57, Try.ntmps57
      go_wp2_with (first | (go_at_call 67; refine (isNaNU_any _ _).mono ?_; rintro e w1 ⟨rfl, rfl⟩) | fail)
      go_ret
      exact ⟨rfl, rfl⟩
/-- The first of two numbers that is not 0. -/
def orI (a b : Int) : Int := if a = 0 then b else a
theorem orI_any (g : Nat) (a b : Int) (w : World) (h0 : w.cell? ⟨g, 0, none⟩ = some (.int .i64 a)) (h1 : w.cell? ⟨g, 1, none⟩ = some (.int .i64 b)) :
    Calls Try.prog 56 #[.slice (some ⟨g, 0, none⟩) 2 2] w fun e w' => e = .returned (.int .i64 (orI a b)) ∧ w' = w := by
  by_cases ha : a = 0
  · have e0 : orI a b = b := if_pos ha
    rw [e0]
    clear e0
    subst ha
    by_cases hb : b = 0
    · subst hb
      go_enter Try.func56, Try.ntmps56
      go_wp2
      go_loop [8] (fun i => i = .int .i64 0 ∨ i = .int .i64 1 ∨ i = .int .i64 2) (fun i => 2 - (intOf i).toNat)
      case atStart => exact .inl rfl
      case round =>
        rcases hrel with rfl | rfl | rfl
        · go_wp2
          go_round
          case rel => exact .inr (.inl rfl)
          case measure => simp [intOf]
        · go_wp2
          go_round
          case rel => exact .inr (.inr rfl)
          case measure => simp [intOf]
        · go_wp2
          go_ret
          exact ⟨rfl, rfl⟩
    · go_enter Try.func56, Try.ntmps56
      go_wp2
      go_loop [8] (fun i => i = .int .i64 0 ∨ i = .int .i64 1) (fun i => 2 - (intOf i).toNat)
      case atStart => exact .inl rfl
      case round =>
        rcases hrel with rfl | rfl
        · go_wp2
          go_round
          case rel => exact .inr rfl
          case measure => simp [intOf]
        · go_wp2
          go_ret
          exact ⟨rfl, rfl⟩
  · have e0 : orI a b = a := if_neg ha
    rw [e0]
    clear e0
    go_enter Try.func56, Try.ntmps56
    go_wp2
    go_loop [8] (fun i => i = .int .i64 0) (fun i => 0)
    case atStart => rfl
    case round =>
      subst hrel
      go_wp2
      go_ret
      exact ⟨rfl, rfl⟩
/-- How two units stand: by their tickets. -/
def cmpT (s a b : Int) : Int := orI (Lib.compareInt (tickI s a) (tickI s b)) (Lib.compareInt a b)

open Go.Shelf Go.Lib Go.Sort in
set_option maxHeartbeats 2000000 in
set_option maxRecDepth 100000 in
theorem cmpT_any (g : Nat) (s a b : Int) (W : World) (hs : W.cell? ⟨g, 0, none⟩ = some (.int .u64 s)) (hg : g < W.heap.size) :
    Calls Try.prog 55 #[.int .i64 a, .int .i64 b, .pointer (some ⟨g, 0, none⟩)] W fun e w' => e = .returned (.int .i64 (cmpT s a b)) ∧ ∃ q os', w' = Sort.grow (W.drewN q) os' := by
  have hcon := fun W' => AnyG.cmp_Compare_int Try.layCompare a b W'
  change ∀ W', Calls Try.prog 59 _ _ _ at hcon
  have Hcon := Lib.hid hcon
  have Ht1 := Lib.hid (fun W => tick_any s a W)
  have Ht2 := Lib.hid (fun W => tick_any s b W)
  have Hc : Hid (cmpT s a b = orI (Lib.compareInt (tickI s a) (tickI s b)) (Lib.compareInt a b)) := Lib.hid rfl
  generalize cmpT s a b = res at *
  generalize tickI s a = ta at *
  generalize tickI s b = tb at *
  have Hu := Lib.hid (fun W => cmpU_any ta tb W)
  generalize Lib.compareInt ta tb = c1 at *
  generalize Lib.compareInt a b = c2 at *
  have Hor := Lib.hid (orI_any W.heap.size c1 c2 (W.alloc (.cells #[.int .i64 c1, .int .i64 c2] 3)).drew (cell_of_row _ _ 0 _ _ _ (heap_alloc_new W _)) (cell_of_row _ _ 1 _ _ _ (heap_alloc_new W _)))
  rw [← Hc.out] at Hor
  clear hcon Hc
  go_enter Try.func55, Try.ntmps55
  go_upto_region 1 with fail
  go_region_held3 (fun w' => w'.cell? ⟨g, 0, none⟩ = some (.int .u64 s))
    (first | go_keep | exact hs | exact (World.cell?_alloc_lt W _ _ hg).trans hs)
    (first
      | (go_at_call_of 58 (Value.int IntKind.i64 a); refine (Ht1.out _).mono ?_; rintro e w1 ⟨rfl, rfl⟩)
      | (go_at_call_of 58 (Value.int IntKind.i64 b); refine (Ht2.out _).mono ?_; rintro e w1 ⟨rfl, rfl⟩)
      | (go_at_call 57; refine (Hu.out _).mono ?_; rintro e w1 ⟨rfl, rfl⟩)
      | (go_at_call 59; refine (Hcon.out _).mono ?_; rintro e w1 ⟨rfl, rfl⟩)
      | (go_at_call 56; refine Hor.out.mono ?_; rintro e w1 ⟨rfl, rfl⟩)
      | fail)
  all_goals go_wp2
  all_goals go_ret
  all_goals exact ⟨rfl, 1, _, by rw [alloc_eq_grow]; rfl⟩
end Go.Proofs.Ytjmbdfoegnfpnaa
