/- Contracts: a record (payments); Sum, put, get, Right, Record (reference). -/
import Derived.Test.YtbkfdpdcnjecbaaP1
namespace Go.Proofs.Ytbkfdpdcnjecbaa
open Go.RowKit
set_option linter.unusedVariables false

theorem own_mono {w : World} {base base' : Nat} {e : TypeId} {size : Nat} {v : Value} {n : Nat} {xs : List Value} (h : w.ownsRow base e size v n xs) (hb : base' ≤ base) : w.ownsRow base' e size v n xs :=
  ⟨h.1, h.2.imp id fun ⟨g, cap, cur, h1, h2, h3⟩ => ⟨g, cap, cur, h1, Nat.le_trans hb h2, h3⟩⟩
/-- The bytes of an order ahead of its check value. -/
def bodyB (o : Ord4) : List Int := be o.n 8 ++ be o.f 2 ++ be o.a 8 ++ be o.d 8
def recB (o : Ord4) : List Int := bodyB o ++ be (sumB (bodyB o)) 2
theorem bodyB_len (o : Ord4) : (bodyB o).length = 26 := by simp [bodyB, be_len]
theorem recB_len (o : Ord4) : (recB o).length = 28 := by simp [recB, bodyB_len, be_len]
theorem bodyB_bytes (o : Ord4) : Bytes (bodyB o) := (((be_bytes _ _).app (be_bytes _ _)).app (be_bytes _ _)).app (be_bytes _ _)
theorem recB_bytes (o : Ord4) : Bytes (recB o) := (bodyB_bytes o).app (be_bytes _ _)

/-- The bytes of the first numbers of an order. -/
def recPre (o : Ord4) : Nat → List Int
  | 0 => []
  | 1 => [] ++ be o.n 8
  | 2 => ([] ++ be o.n 8) ++ be o.f 2
  | 3 => (([] ++ be o.n 8) ++ be o.f 2) ++ be o.a 8
  | _ => ((([] ++ be o.n 8) ++ be o.f 2) ++ be o.a 8) ++ be o.d 8
theorem recPre_len (o : Ord4) (k : Nat) : (recPre o k).length = match k with | 0 => 0 | 1 => 8 | 2 => 10 | 3 => 18 | _ => 26 := by unfold recPre; split <;> simp [be_len]
theorem recPre_four (o : Ord4) : recPre o 4 = bodyB o := rfl

set_option maxHeartbeats 400000 in
theorem widths_any (w : World) :
    Calls Try.prog 46 #[] w fun e w' => e = .returned (.agg #[.int .i64 8, .int .i64 2, .int .i64 8, .int .i64 8, .int .i64 2]) ∧ Below w.heap.size w w' := by
  go_enter Try.func46, Try.ntmps46
  go_wp2
  refine bodyPost_ret (v := .agg #[.int .i64 8, .int .i64 2, .int .i64 8, .int .i64 8, .int .i64 2]) (by simp [results, Try.results46, go_sem, *]) rfl ?_
  exact ⟨rfl, (by repeat' (first | with_reducible exact Below.refl _ _ | with_reducible refine below_drewN ?_ _ | with_reducible refine Below.drew ?_ | with_reducible refine Below.alloc ?_ ?_ _ | with_reducible refine Below.setCell ?_ ?_ _ | with_reducible refine Below.trans ?_ (Below.mono (by with_reducible assumption) ?_) | (simp; done) | (simp; omega) | omega))⟩

set_option maxHeartbeats 800000 in
theorem record_any (o : Ord4) (w : World) (ho : rightB o = true) :
    Calls Try.prog 37 #[.agg #[.int .i64 o.n, .int .i64 o.f, .int .i64 o.a, .int .i64 o.d]] w (PutPost w w.heap.size (recB o)) := by
  obtain ⟨⟨h1, h2⟩, ⟨h3, h4⟩, ⟨h5, h6⟩, h7, h8⟩ := (rightB_iff o).1 ho
  have Hb := Lib.hid (bodyB_bytes o)
  have Hs := Lib.hid (sumB_bd (bodyB o) (bodyB_bytes o))
  have Hbl := Lib.hid (bodyB_len o)
  have x0 : ∀ w : World, (Instr.index 70 (.agg #[.int .i64 o.n, .int .i64 o.f, .int .i64 o.a, .int .i64 o.d]) (.int .i64 0)).run Try.prog w = .ok (.int .i64 o.n) w := fun _ => by kernel_rfl
  have x1 : ∀ w : World, (Instr.index 70 (.agg #[.int .i64 o.n, .int .i64 o.f, .int .i64 o.a, .int .i64 o.d]) (.int .i64 1)).run Try.prog w = .ok (.int .i64 o.f) w := fun _ => by kernel_rfl
  have x2 : ∀ w : World, (Instr.index 70 (.agg #[.int .i64 o.n, .int .i64 o.f, .int .i64 o.a, .int .i64 o.d]) (.int .i64 2)).run Try.prog w = .ok (.int .i64 o.a) w := fun _ => by kernel_rfl
  have x3 : ∀ w : World, (Instr.index 70 (.agg #[.int .i64 o.n, .int .i64 o.f, .int .i64 o.a, .int .i64 o.d]) (.int .i64 3)).run Try.prog w = .ok (.int .i64 o.d) w := fun _ => by kernel_rfl
  go_enter Try.func37, Try.ntmps37
  go_wp2_with fail
  refine (widths_any _).mono ?_
  rintro e w1 ⟨rfl, hb1⟩
  obtain ⟨hc1, hf1⟩ := bcell hb1
  have hl1 : w.heap.size < w1.heap.size := by have := hb1.size; simp at this; omega
  go_wp2_with fail
  obtain ⟨w2, hw2⟩ : ∃ w2 : World, w2 = w1.alloc (.cells #[.int .i64 8, .int .i64 2, .int .i64 8, .int .i64 8, .int .i64 2] 68) := ⟨_, rfl⟩
  rw [← hw2]
  have c0 : w2.cell? ⟨w1.heap.size, 0, none⟩ = some (.int .i64 8) := by rw [hw2]; go_simp
  have c1 : w2.cell? ⟨w1.heap.size, 1, none⟩ = some (.int .i64 2) := by rw [hw2]; go_simp
  have c2 : w2.cell? ⟨w1.heap.size, 2, none⟩ = some (.int .i64 8) := by rw [hw2]; go_simp
  have c3 : w2.cell? ⟨w1.heap.size, 3, none⟩ = some (.int .i64 8) := by rw [hw2]; go_simp
  have c4 : w2.cell? ⟨w1.heap.size, 4, none⟩ = some (.int .i64 2) := by rw [hw2]; go_simp
  have hs2 : w1.heap.size < w2.heap.size := by rw [hw2]; simp
  have hB2 : Below w.heap.size w w2 := by rw [hw2]; exact (by repeat' (first | with_reducible exact Below.refl _ _ | with_reducible refine below_drewN ?_ _ | with_reducible refine Below.drew ?_ | with_reducible refine Below.alloc ?_ ?_ _ | with_reducible refine Below.setCell ?_ ?_ _ | with_reducible refine Below.trans ?_ (Below.mono (by with_reducible assumption) ?_) | (simp; done) | (simp; omega) | omega))
  go_loopw [3, 17] (fun b k wr => ∃ m : Nat, m ≤ 4 ∧ k = .int .i64 (m : Int) ∧ PutPost w2 w2.heap.size (recPre o m) (.returned b) wr) (fun _ k _ => (4 - intOf k).toNat)
  case atStart => exact ⟨0, by omega, rfl, _, rfl, World.ownsRow_nil _ _ _ _, Below.refl _ _⟩
  case round =>
    obtain ⟨m, hm, rfl, v, hv, hown, hb⟩ := hrel
    injection hv with hv
    subst hv
    have c0 := (hb.cell (p := ⟨w1.heap.size, 0, none⟩) hs2).trans c0
    have c1 := (hb.cell (p := ⟨w1.heap.size, 1, none⟩) hs2).trans c1
    have c2 := (hb.cell (p := ⟨w1.heap.size, 2, none⟩) hs2).trans c2
    have c3 := (hb.cell (p := ⟨w1.heap.size, 3, none⟩) hs2).trans c3
    have c4 := (hb.cell (p := ⟨w1.heap.size, 4, none⟩) hs2).trans c4
    have hl2 : w1.heap.size < wr.heap.size := by have := hb.size; omega
    have Hown := Lib.hid hown
    clear hown
    rcases (show m = 0 ∨ m = 1 ∨ m = 2 ∨ m = 3 ∨ m = 4 by omega) with rfl | rfl | rfl | rfl | rfl
    · go_wp2_with fail
      refine (putP_any w2.heap.size _ (recPre o 0) o.n 8 _ Hown.out hb.size (by omega) (by omega) (by rw [recPre_len]; decide)).mono ?_
      rintro e w3 ⟨v3, rfl, hown3, hb3⟩
      go_wp2
      go_roundw
      case rel => exact ⟨1, by omega, rfl, v3, rfl, hown3, hb.trans hb3⟩
      case measure => simp [intOf]
    · go_wp2_with fail
      refine (putP_any w2.heap.size _ (recPre o 1) o.f 2 _ (by exact Hown.out) (by exact hb.size) (by omega) (by omega) (by rw [recPre_len]; decide)).mono ?_
      rintro e w3 ⟨v3, rfl, hown3, hb3⟩
      go_wp2
      go_roundw
      case rel => exact ⟨2, by omega, rfl, v3, rfl, hown3, hb.trans hb3⟩
      case measure => simp [intOf]
    · go_wp2_with fail
      refine (putP_any w2.heap.size _ (recPre o 2) o.a 8 _ Hown.out hb.size (by omega) (by omega) (by rw [recPre_len]; decide)).mono ?_
      rintro e w3 ⟨v3, rfl, hown3, hb3⟩
      go_wp2
      go_roundw
      case rel => exact ⟨3, by omega, rfl, v3, rfl, hown3, hb.trans hb3⟩
      case measure => simp [intOf]
    · go_wp2_with fail
      refine (putP_any w2.heap.size _ (recPre o 3) o.d 8 _ Hown.out hb.size (by omega) (by omega) (by rw [recPre_len]; decide)).mono ?_
      rintro e w3 ⟨v3, rfl, hown3, hb3⟩
      go_wp2
      go_roundw
      case rel => exact ⟨4, by omega, rfl, v3, rfl, hown3, hb.trans hb3⟩
      case measure => simp [intOf]
    · rw [recPre_four] at Hown
      obtain ⟨A, c, rfl, hlies, hnc, hcm⟩ := own_slice Hown.out
      go_wp2_with fail
      go_region_held3 (fun w' => w'.cell? ⟨w1.heap.size, 4, none⟩ = some (.int .i64 2)) (first | go_keep | exact (hb3.cell (p := ⟨w1.heap.size, 4, none⟩) hs2).trans c4)
        (first
          | (go_at_call 25; refine (sumP_any A _ c (bodyB o) _ rfl (by rw [Hbl.out]; decide) Hb.out (by exact hlies)).mono ?_; rintro e w' ⟨rfl, rfl⟩)
          | (go_at_call 47; refine (putP_any w2.heap.size _ (bodyB o) (sumB (bodyB o)) 2 _ (by exact Hown.out) (by exact hb.size) (by have := Hs.out; omega) (by omega) (by rw [Hbl.out]; decide)).mono ?_; rintro e w3 ⟨v3, rfl, hown3, hb3⟩))
      all_goals
        go_wp2
        go_ret
        have hbw : Below w2.heap.size w2 w3 := (Below.drew hb).trans hb3
        exact ⟨v3, rfl, own_mono hown3 (by omega), hB2.trans (hbw.mono (by omega))⟩

set_option maxHeartbeats 400000 in
theorem recordP_any (o : Ord4) (w : World) :
    Calls Try.prog 24 #[.agg #[.int .i64 o.n, .int .i64 o.f, .int .i64 o.a, .int .i64 o.d]] w fun e w' => ∃ v, e = .returned (.tuple #[v, .int .i64 (if rightB o then 0 else 75)]) ∧ w'.ownsRow w.heap.size 5 1 v (if rightB o then recB o else []).length ((if rightB o then recB o else []).map (.int .u8)) ∧ Below w.heap.size w w' := by
  go_enter Try.func24, Try.ntmps24
  go_wp2_with fail
  refine (right_any o _).mono ?_
  rintro e w1 ⟨rfl, hb1⟩
  obtain ⟨hc1, hf1⟩ := bcell hb1
  have hl1 : w.heap.size < w1.heap.size := by have := hb1.size; simp at this; omega
  rcases hr : rightB o with _ | _
  · go_wp2
    all_goals
      go_ret2
      exact ⟨_, rfl, World.ownsRow_nil _ _ _ _, (by repeat' (first | with_reducible exact Below.refl _ _ | with_reducible refine below_drewN ?_ _ | with_reducible refine Below.drew ?_ | with_reducible refine Below.alloc ?_ ?_ _ | with_reducible refine Below.setCell ?_ ?_ _ | with_reducible refine Below.trans ?_ (Below.mono (by with_reducible assumption) ?_) | (simp; done) | (simp; omega) | omega))⟩
  · go_wp2_with fail
    refine (record_any o _ hr).mono ?_
    rintro e w2 ⟨v, rfl, hown, hb2⟩
    go_wp2
    go_ret2
    exact ⟨v, rfl, own_mono hown (by omega), (by repeat' (first | with_reducible exact Below.refl _ _ | with_reducible refine below_drewN ?_ _ | with_reducible refine Below.drew ?_ | with_reducible refine Below.alloc ?_ ?_ _ | with_reducible refine Below.setCell ?_ ?_ _ | with_reducible refine Below.trans ?_ (Below.mono (by with_reducible assumption) ?_) | (simp; done) | (simp; omega) | omega))⟩
end Go.Proofs.Ytbkfdpdcnjecbaa
