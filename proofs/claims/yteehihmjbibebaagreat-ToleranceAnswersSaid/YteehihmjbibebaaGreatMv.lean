/- Contract: Measure (tolerance). -/
import Derived.Test.YteehihmjbibebaaGreatMu
import Derived.Test.YteehihmjbibebaaGreatBg
namespace Go.Proofs.YteehihmjbibebaaGreat
open Go.RowKit
set_option linter.unusedVariables false
set_option linter.unusedSimpArgs false

/-- What Measure returns: the area, the border, the error. -/
def meaV (l : List R4) : Int × Int × Int := if validP l then (sizeP l, bordP l, 0) else (0, 0, 7)
theorem box2 {w : World} {g : Nat} {t : TypeId} {a b x y : Value} (h : w.heap[g]? = some (.cells #[a, b] t (0, 0))) : ((w.setCell ⟨g, 0, none⟩ x).setCell ⟨g, 1, none⟩ y).heap[g]? = some (.cells #[x, y] t (0, 0)) := by
  have h1 := heap_setCell_same w g 0 _ _ x h
  have h2 := heap_setCell_same _ g 1 _ _ y h1
  simpa using h2
set_option maxHeartbeats 2000000 in
set_option maxRecDepth 100000 in
theorem meaT_any (A : Option Addr) (n c : Nat) (l : List R4) (w : World) (hA : SlR w A n c l) :
    Calls Tryz.prog 15 #[.agg #[.slice A n c]] w fun e w' => e = .returned (.tuple #[.agg #[.int .i64 (meaV l).1, .int .i64 (meaV l).2.1], .int .i64 (meaV l).2.2]) ∧ Below w.heap.size w w' := by
  have HA := Lib.hid hA
  have HB := Lib.hid (fun W (hW : SlR W A n c l) => bordO_any A n c l W hW)
  have HR := Lib.hid (fun W (hW : SlR W A n c l) => area_any A n c l W hW)
  clear hA
  obtain ⟨wa, hwa⟩ : ∃ wa : World, wa = (w.alloc (.cells #[.slice A n c] 27)).alloc (.cells #[.int .i64 0, .int .i64 0] 23) := ⟨_, rfl⟩
  have hsa : wa.heap.size = w.heap.size + 2 := by rw [hwa]; simp
  have Hba : Hid (Below w.heap.size w wa) := Lib.hid (by rw [hwa]; exact (by repeat' (first | with_reducible exact Below.refl _ _ | with_reducible refine below_drewN ?_ _ | with_reducible refine Below.drew ?_ | with_reducible refine Below.alloc ?_ ?_ _ | with_reducible refine Below.setCell ?_ ?_ _ | with_reducible refine Below.trans ?_ (Below.mono (by with_reducible assumption) ?_) | (simp; done) | (simp; omega) | omega)))
  have hra : wa.heap[w.heap.size]? = some (.cells #[.slice A n c] 27 (0, 0)) := by rw [hwa]; exact (Below.heap_alloc _ _ _ (by simp)).trans (heap_alloc_new w _)
  have hrb : wa.heap[w.heap.size + 1]? = some (.cells #[.int .i64 0, .int .i64 0] 23 (0, 0)) := by rw [hwa]; have := heap_alloc_new (w.alloc (.cells #[.slice A n c] 27)) (.cells #[.int .i64 0, .int .i64 0] 23); simpa using this
  have ca := cell_of_row wa w.heap.size 0 _ _ _ hra
  have Hrb := Lib.hid hrb
  have Hra := Lib.hid hra
  clear hra hrb
  unfold meaV
  unfold bordV at HB
  unfold areaP at HR
  cases hv : validP l with
  | false =>
    rw [hv] at HB
    clear HR hv
    go_enter Tryz.func15, Tryz.ntmps15
    go_upto_region 1 with fail
    rw [← hwa]
    have HW := Lib.hid hwa
    clear hwa
    go_upto_region 3 with (first
      | (go_at_call 25
         refine (HB.out _ (HA.out.below Hba.out)).mono ?_
         rintro e w1 ⟨rfl, hb1⟩
         have Hb1 := Lib.hid hb1
         have hs1 := hb1.size
         have hr1 := (hb1.block _ (by omega)).trans Hrb.out
         have Hr1 := Lib.hid hr1
         have c1 := cell_of_row w1 (w.heap.size + 1) 0 _ _ _ hr1
         have c2 := cell_of_row w1 (w.heap.size + 1) 1 _ _ _ hr1
         have f1 := frozen_of_row w1 (w.heap.size + 1) 0 _ _ hr1
         have f2 := frozen_of_row w1 (w.heap.size + 1) 1 _ _ hr1
         clear hb1 hr1)
      | fail)
    go_wp2
    have s0 : ((w1.setCell ⟨w.heap.size + 1, 0, none⟩ (.int .i64 0)).setCell ⟨w.heap.size + 1, 1, none⟩ (.int .i64 0)).heap[w.heap.size + 1]? = some (.cells #[.int .i64 0, .int .i64 0] 23 (0, 0)) := box2 Hr1.out
    have z0 := cell_of_row _ (w.heap.size + 1) 0 _ _ _ s0
    have z1 := cell_of_row _ (w.heap.size + 1) 1 _ _ _ s0
    refine bodyPost_ret (v := .tuple #[.agg #[.int .i64 0, .int .i64 0], .int .i64 7]) (by simp [results, Tryz.results15, go_sem, *]) rfl ?_
    exact ⟨rfl, (Hba.out.trans (Hb1.out.mono (by omega))).setCell (by simp) _ |>.setCell (by simp) _⟩
  | true =>
    rw [hv] at HB HR
    clear hv
    go_enter Tryz.func15, Tryz.ntmps15
    go_upto_region 1 with fail
    rw [← hwa]
    have HW := Lib.hid hwa
    clear hwa
    go_upto_region 4 with (first
      | (go_at_call 25
         refine (HB.out _ (HA.out.below Hba.out)).mono ?_
         rintro e w1 ⟨rfl, hb1⟩
         have Hb1 := Lib.hid hb1
         have hs1 := hb1.size
         have Hr1 := Lib.hid ((hb1.block _ (by omega)).trans Hrb.out)
         have c0 := cell_of_row w1 w.heap.size 0 _ _ _ ((hb1.block _ (by omega)).trans Hra.out)
         clear hb1)
      | fail)
    go_wp2_with (first
      | (go_at_call 26
         refine (HR.out _ (HA.out.below (Hba.out.trans (Hb1.out.mono (by omega))))).mono ?_
         rintro e w2 ⟨rfl, hb2⟩
         have Hb2 : Hid (Below w.heap.size w w2) := Lib.hid ((Hba.out.trans (Hb1.out.mono (by omega))).trans (hb2.mono (by omega)))
         have hs2 := hb2.size
         have Hr2 := Lib.hid ((hb2.block (w.heap.size + 1) (by omega)).trans Hr1.out)
         have c1 := cell_of_row w2 (w.heap.size + 1) 0 _ _ _ Hr2.out
         have c2 := cell_of_row w2 (w.heap.size + 1) 1 _ _ _ Hr2.out
         have f1 := frozen_of_row w2 (w.heap.size + 1) 0 _ _ Hr2.out
         have f2 := frozen_of_row w2 (w.heap.size + 1) 1 _ _ Hr2.out
         clear hb2)
      | fail)
    have s0 : ((w2.setCell ⟨w.heap.size + 1, 0, none⟩ (.int .i64 (sizeP l))).setCell ⟨w.heap.size + 1, 1, none⟩ (.int .i64 (bordP l))).heap[w.heap.size + 1]? = some (.cells #[.int .i64 (sizeP l), .int .i64 (bordP l)] 23 (0, 0)) := box2 Hr2.out
    have z0 := cell_of_row _ (w.heap.size + 1) 0 _ _ _ s0
    have z1 := cell_of_row _ (w.heap.size + 1) 1 _ _ _ s0
    refine bodyPost_ret (v := .tuple #[.agg #[.int .i64 (sizeP l), .int .i64 (bordP l)], .int .i64 0]) (by simp [results, Tryz.results15, go_sem, *]) rfl ?_
    exact ⟨rfl, (Hb2.out.setCell (by simp) _).setCell (by simp) _⟩
end Go.Proofs.YteehihmjbibebaaGreat
