/- Contracts: usable, clone (draw). -/
import Derived.Test.YtbkkmgofjhaaoaaD2
namespace Go.Proofs.Ytbkkmgofjhaaoaa
open Go.RowKit
set_option linter.unusedVariables false
set_option linter.unusedSimpArgs false

def usableD (d : Dr) (s : Int) : Int := if checkD d = 0 then (if d.st = s then 0 else 61) else checkD d
set_option maxHeartbeats 1000000 in
theorem usable_any (p : DV) (d : Dr) (s : Int) (w : World) (h : DrAt w p d) :
    Calls Try.prog 44 #[.agg #[.int .i64 d.st, .slice p.a1 d.se.length p.c1, .slice p.a2 d.sd.length p.c2, .slice p.a3 d.sx.length p.c3, .slice p.a4 d.rv.length p.c4], .int .i64 s] w fun e w' => e = .returned (.int .i64 (usableD d s)) ∧ Below w.heap.size w w' := by
  have H := Lib.hid h
  have H1 := Lib.hid (fun W (hb : Below w.heap.size w W) => check_any p d W (h.below hb))
  have Hu : Hid (usableD d s = if checkD d = 0 then (if d.st = s then 0 else 61) else checkD d) := Lib.hid rfl
  clear h
  generalize usableD d s = res at *
  generalize checkD d = c at *
  by_cases hc : c = 0
  · subst hc
    by_cases hs : d.st = s
    · have hR : res = 0 := by rw [Hu.out]; simp [hs]
      subst hR
      clear Hu
      subst hs
      go_enter Try.func44, Try.ntmps44
      go_wp2_with (first | (go_at_call 15; refine (H1.out _ (by repeat' (first | with_reducible exact Below.refl _ _ | with_reducible refine below_drewN ?_ _ | with_reducible refine Below.drew ?_ | with_reducible refine Below.alloc ?_ ?_ _ | with_reducible refine Below.setCell ?_ ?_ _ | with_reducible refine Below.trans ?_ (Below.mono (by with_reducible assumption) ?_) | (simp; done) | (simp; omega) | omega))).mono ?_; rintro e w1 ⟨rfl, hb1⟩; have hr1 : w1.heap[w.heap.size]? = some (.cells #[.int .i64 d.st, .slice p.a1 d.se.length p.c1, .slice p.a2 d.sd.length p.c2, .slice p.a3 d.sx.length p.c3, .slice p.a4 d.rv.length p.c4] 26 (0, 0)) := (hb1.block w.heap.size (by simp)).trans (heap_alloc_new w _); have z0 := cell_of_row w1 w.heap.size 0 _ _ _ hr1; clear hr1) | fail)
      go_ret
      exact ⟨rfl, (by repeat' (first | with_reducible exact Below.refl _ _ | with_reducible assumption | with_reducible refine below_drewN ?_ _ | with_reducible refine Below.drew ?_ | with_reducible refine Below.alloc ?_ ?_ _ | with_reducible refine Below.setCell ?_ ?_ _ | with_reducible refine Below.trans ?_ (Below.mono (by with_reducible assumption) ?_) | with_reducible refine below_only ?_ (by with_reducible assumption) ?_ ?_ | (simp; done) | (simp; omega) | omega))⟩
    · have hR : res = 61 := by rw [Hu.out]; simp [hs]
      subst hR
      clear Hu
      go_enter Try.func44, Try.ntmps44
      go_wp2_with (first | (go_at_call 15; refine (H1.out _ (by repeat' (first | with_reducible exact Below.refl _ _ | with_reducible refine below_drewN ?_ _ | with_reducible refine Below.drew ?_ | with_reducible refine Below.alloc ?_ ?_ _ | with_reducible refine Below.setCell ?_ ?_ _ | with_reducible refine Below.trans ?_ (Below.mono (by with_reducible assumption) ?_) | (simp; done) | (simp; omega) | omega))).mono ?_; rintro e w1 ⟨rfl, hb1⟩; have hr1 : w1.heap[w.heap.size]? = some (.cells #[.int .i64 d.st, .slice p.a1 d.se.length p.c1, .slice p.a2 d.sd.length p.c2, .slice p.a3 d.sx.length p.c3, .slice p.a4 d.rv.length p.c4] 26 (0, 0)) := (hb1.block w.heap.size (by simp)).trans (heap_alloc_new w _); have z0 := cell_of_row w1 w.heap.size 0 _ _ _ hr1; clear hr1) | fail)
      go_ret
      exact ⟨rfl, (by repeat' (first | with_reducible exact Below.refl _ _ | with_reducible assumption | with_reducible refine below_drewN ?_ _ | with_reducible refine Below.drew ?_ | with_reducible refine Below.alloc ?_ ?_ _ | with_reducible refine Below.setCell ?_ ?_ _ | with_reducible refine Below.trans ?_ (Below.mono (by with_reducible assumption) ?_) | with_reducible refine below_only ?_ (by with_reducible assumption) ?_ ?_ | (simp; done) | (simp; omega) | omega))⟩
  · have hR : res = c := by rw [Hu.out, if_neg hc]
    subst hR
    clear Hu
    go_enter Try.func44, Try.ntmps44
    go_wp2_with (first | (go_at_call 15; refine (H1.out _ (by repeat' (first | with_reducible exact Below.refl _ _ | with_reducible refine below_drewN ?_ _ | with_reducible refine Below.drew ?_ | with_reducible refine Below.alloc ?_ ?_ _ | with_reducible refine Below.setCell ?_ ?_ _ | with_reducible refine Below.trans ?_ (Below.mono (by with_reducible assumption) ?_) | (simp; done) | (simp; omega) | omega))).mono ?_; rintro e w1 ⟨rfl, hb1⟩) | fail)
    go_ret
    exact ⟨rfl, (by repeat' (first | with_reducible exact Below.refl _ _ | with_reducible assumption | with_reducible refine below_drewN ?_ _ | with_reducible refine Below.drew ?_ | with_reducible refine Below.alloc ?_ ?_ _ | with_reducible refine Below.setCell ?_ ?_ _ | with_reducible refine Below.trans ?_ (Below.mono (by with_reducible assumption) ?_) | with_reducible refine below_only ?_ (by with_reducible assumption) ?_ ?_ | (simp; done) | (simp; omega) | omega))⟩
end Go.Proofs.Ytbkkmgofjhaaoaa
