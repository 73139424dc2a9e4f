/- Contracts: proper, Of$1, Valid$1, Limited, Same, Size (regions). -/
import Derived.Test.YtmkopmcjilaedaaGreatS3
namespace Go.Proofs.YtmkopmcjilaedaaGreat
open Go.RowKit
set_option linter.unusedVariables false
set_option linter.unusedSimpArgs false

set_option maxHeartbeats 400000 in
theorem properP_any (q : R4) (w : World) :
    Calls Tryz.prog 21 #[.agg #[.int .i64 q.l, .int .i64 q.b, .int .i64 q.r, .int .i64 q.t]] w fun e w' => e = .returned (.bool q.ok) ∧ Below w.heap.size w w' := by
  go_enter Tryz.func21, Tryz.ntmps21
  go_wp2
  all_goals
    go_ret
    exact ⟨ret_bool (by simp [R4.ok]; omega), (by repeat' (first | with_reducible exact Below.refl _ _ | with_reducible refine below_drewN ?_ _ | with_reducible refine Below.drew ?_ | with_reducible refine Below.alloc ?_ ?_ _ | with_reducible refine Below.setCell ?_ ?_ _ | with_reducible refine Below.trans ?_ (Below.mono (by with_reducible assumption) ?_) | (simp; done) | (simp; omega) | omega))⟩

set_option maxHeartbeats 400000 in
theorem ofPred (w : World) : PredBelow Tryz.prog 20 #[] (fun q : R4 => .agg (R4.cells q).toArray) (fun q => !q.ok) w := by
  intro W q hb
  refine Calls.mono (show Calls Tryz.prog 20 #[.agg #[.int .i64 q.l, .int .i64 q.b, .int .i64 q.r, .int .i64 q.t]] W fun e w' => e = .returned (.bool (!q.ok)) ∧ Below W.heap.size W w' from ?_) ?_
  · have Hp := Lib.hid (fun W => properP_any q W)
    generalize q.ok = x at *
    go_enter Tryz.func20, Tryz.ntmps20
    go_wp2_with (first | (go_at_call 21; refine (Hp.out _).mono ?_; rintro e w1 ⟨rfl, hb1⟩) | fail)
    go_ret
    exact ⟨rfl, (by repeat' (first | with_reducible exact Below.refl _ _ | with_reducible assumption | with_reducible refine below_drewN ?_ _ | with_reducible refine Below.drew ?_ | with_reducible refine Below.alloc ?_ ?_ _ | with_reducible refine Below.setCell ?_ ?_ _ | with_reducible refine Below.trans ?_ (Below.mono (by with_reducible assumption) ?_) | with_reducible refine below_only ?_ (by with_reducible assumption) ?_ ?_ | (simp; done) | (simp; omega) | omega))⟩
  · rintro e w' ⟨rfl, h⟩
    exact ⟨rfl, hb.trans (h.mono hb.size)⟩

set_option maxHeartbeats 400000 in
theorem limited_big (A : Option Addr) (n c : Nat) (w : World) (h : 120 < n) :
    Calls Tryz.prog 22 #[.slice A n c] w fun e w' => e = .returned (.tuple #[.agg #[.slice none 0 0], .int .i64 1]) ∧ Below w.heap.size w w' := by
  have h' : (120 : Int) < (n : Int) := by omega
  go_enter Tryz.func22, Tryz.ntmps22
  go_wp2
  refine bodyPost_ret (v := .tuple #[.agg #[.slice none 0 0], .int .i64 1]) (by simp [results, Tryz.results22, go_sem, *]) rfl ?_
  exact ⟨rfl, (by repeat' (first | with_reducible exact Below.refl _ _ | with_reducible refine below_drewN ?_ _ | with_reducible refine Below.drew ?_ | with_reducible refine Below.alloc ?_ ?_ _ | with_reducible refine Below.setCell ?_ ?_ _ | with_reducible refine Below.trans ?_ (Below.mono (by with_reducible assumption) ?_) | (simp; done) | (simp; omega) | omega))⟩

set_option maxHeartbeats 400000 in
theorem limited_ok (A : Option Addr) (n c : Nat) (w : World) (h : n ≤ 120) :
    Calls Tryz.prog 22 #[.slice A n c] w fun e w' => e = .returned (.tuple #[.agg #[.slice A n c], .int .i64 0]) ∧ Below w.heap.size w w' := by
  have h' : ¬ (120 : Int) < (n : Int) := by omega
  go_enter Tryz.func22, Tryz.ntmps22
  go_wp2
  refine bodyPost_ret (v := .tuple #[.agg #[.slice A n c], .int .i64 0]) (by simp [results, Tryz.results22, go_sem, *]) rfl ?_
  exact ⟨rfl, (by repeat' (first | with_reducible exact Below.refl _ _ | with_reducible refine below_drewN ?_ _ | with_reducible refine Below.drew ?_ | with_reducible refine Below.alloc ?_ ?_ _ | with_reducible refine Below.setCell ?_ ?_ _ | with_reducible refine Below.trans ?_ (Below.mono (by with_reducible assumption) ?_) | (simp; done) | (simp; omega) | omega))⟩

set_option maxHeartbeats 400000 in
theorem sameP_any (A B : Option Addr) (n c m d : Nat) (l k : List R4) (w : World) (hA : SlR w A n c l) (hB : SlR w B m d k) :
    Calls Tryz.prog 40 #[.agg #[.slice A n c], .agg #[.slice B m d]] w fun e w' => e = .returned (.bool (decide (l = k))) ∧ Below w.heap.size w w' := by
  have HA := Lib.hid hA
  have HB := Lib.hid hB
  clear hA hB
  generalize hx : decide (l = k) = x
  have Hx := Lib.hid hx
  clear hx
  go_enter Tryz.func40, Tryz.ntmps40
  go_wp2_with (first | (go_at_call 43; refine (equalR_any A B n c m d l k _ (HA.out.below (by repeat' (first | with_reducible exact Below.refl _ _ | with_reducible refine below_drewN ?_ _ | with_reducible refine Below.drew ?_ | with_reducible refine Below.alloc ?_ ?_ _ | with_reducible refine Below.setCell ?_ ?_ _ | with_reducible refine Below.trans ?_ (Below.mono (by with_reducible assumption) ?_) | (simp; done) | (simp; omega) | omega))) (HB.out.below (by repeat' (first | with_reducible exact Below.refl _ _ | with_reducible refine below_drewN ?_ _ | with_reducible refine Below.drew ?_ | with_reducible refine Below.alloc ?_ ?_ _ | with_reducible refine Below.setCell ?_ ?_ _ | with_reducible refine Below.trans ?_ (Below.mono (by with_reducible assumption) ?_) | (simp; done) | (simp; omega) | omega)))).mono ?_; rintro e w1 ⟨rfl, hb1⟩; rw [Hx.out]) | fail)
  go_ret
  exact ⟨rfl, (by repeat' (first | with_reducible exact Below.refl _ _ | with_reducible assumption | with_reducible refine below_drewN ?_ _ | with_reducible refine Below.drew ?_ | with_reducible refine Below.alloc ?_ ?_ _ | with_reducible refine Below.setCell ?_ ?_ _ | with_reducible refine Below.trans ?_ (Below.mono (by with_reducible assumption) ?_) | with_reducible refine below_only ?_ (by with_reducible assumption) ?_ ?_ | (simp; done) | (simp; omega) | omega))⟩
end Go.Proofs.YtmkopmcjilaedaaGreat
