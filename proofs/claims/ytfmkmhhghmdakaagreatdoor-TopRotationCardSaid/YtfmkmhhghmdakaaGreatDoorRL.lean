import Derived.Test.YtfmkmhhghmdakaaGreatDoorRF
import Derived.Test.YtfmkmhhghmdakaaGreatDoorRI
import Derived.Test.YtfmkmhhghmdakaaGreatDoorRK
namespace Go.Proofs.YtfmkmhhghmdakaaGreatDoor
open Go.RowKit Go.Shelf
set_option linter.unusedVariables false
set_option linter.unusedSimpArgs false
set_option maxHeartbeats 64000000
set_option maxRecDepth 100000
def rcCmp (x y : Rc) : Int := orI (cI x.yr y.yr) (cI x.cr y.cr)
theorem rcCmp_lt {x y : Rc} : rcCmp x y = -1 ↔ rcLt x y := by
  unfold rcCmp orI rcLt
  rcases cI_cases x.yr y.yr with ⟨h, h'⟩ | ⟨h, h'⟩ | ⟨h, h'⟩ <;> rcases cI_cases x.cr y.cr with ⟨k, k'⟩ | ⟨k, k'⟩ | ⟨k, k'⟩ <;> rw [h, k] <;> simp <;> omega
theorem compareRc_any (x y : Rc) (v u : LV) (w : World) : Calls Tryz.prog 119 #[.agg #[.int .i64 x.yr, .int .i64 x.cr, .slice v.a x.rg.length v.c], .agg #[.int .i64 y.yr, .int .i64 y.cr, .slice u.a y.rg.length u.c]] w fun e w' => e = .returned (.int .i64 (rcCmp x y)) ∧ Below w.heap.size w w' := by
  obtain ⟨a, b, ra⟩ := x
  obtain ⟨c, d, rc⟩ := y
  have Hc1 := Lib.hid (fun W => cmpI_any a c W)
  have Hc2 := Lib.hid (fun W => cmpI_any b d W)
  have Hr : Hid (rcCmp ⟨a, b, ra⟩ ⟨c, d, rc⟩ = orI (cI a c) (cI b d)) := Lib.hid rfl
  generalize rcCmp ⟨a, b, ra⟩ ⟨c, d, rc⟩ = res at *
  generalize cI a c = c1 at *
  generalize cI b d = c2 at *
  dsimp only at *
  generalize ra.length = na at *
  generalize rc.length = nc at *
  go_enter Tryz.func119, Tryz.ntmps119
  go_upto_region 1 with fail
  obtain ⟨wa, hwa⟩ : ∃ wa : World, wa = (w.alloc (.cells #[.int .i64 a, .int .i64 b, .slice v.a na v.c] 172)).alloc (.cells #[.int .i64 c, .int .i64 d, .slice u.a nc u.c] 172) := ⟨_, rfl⟩
  rw [← hwa]
  have HG : Hid (wa.heap[w.heap.size]? = some (.cells #[.int .i64 a, .int .i64 b, .slice v.a na v.c] 172 (0, 0))) := Lib.hid (by rw [hwa]; exact (Below.heap_alloc _ _ _ (by simp)).trans (heap_alloc_new w _))
  have HE : Hid (wa.heap[w.heap.size + 1]? = some (.cells #[.int .i64 c, .int .i64 d, .slice u.a nc u.c] 172 (0, 0))) := Lib.hid (by rw [hwa]; exact heap_alloc2_new w _ _)
  have Hba : Hid (Below w.heap.size w wa) := Lib.hid (by rw [hwa]; exact gBel)
  have hlE : w.heap.size + 1 < wa.heap.size := by rw [hwa]; simp
  clear hwa
  have hlG : w.heap.size < wa.heap.size := by omega
  have a0 := cell_of_row wa w.heap.size 0 _ _ _ HG.out
  have a1 := cell_of_row wa w.heap.size 1 _ _ _ HG.out
  have b0 := cell_of_row wa (w.heap.size + 1) 0 _ _ _ HE.out
  have b1 := cell_of_row wa (w.heap.size + 1) 1 _ _ _ HE.out
  have Hor := Lib.hid (orI_any wa.heap.size c1 c2 (wa.alloc (.cells #[.int .i64 c1, .int .i64 c2] 3)).drew (cell_of_row _ _ 0 _ _ _ (heap_alloc_new wa _)) (cell_of_row _ _ 1 _ _ _ (heap_alloc_new wa _)))
  have Hb2 : Hid (Below w.heap.size w (wa.alloc (.cells #[.int .i64 c1, .int .i64 c2] 3)).drew) := Lib.hid ((Hba.out.alloc (by omega) _).drew)
  rw [← Hr.out] at Hor
  go_region_held3 (fun w' => w'.cell? ⟨w.heap.size, 0, none⟩ = some (.int .i64 a) ∧ w'.cell? ⟨w.heap.size, 1, none⟩ = some (.int .i64 b) ∧ w'.cell? ⟨w.heap.size + 1, 0, none⟩ = some (.int .i64 c) ∧ w'.cell? ⟨w.heap.size + 1, 1, none⟩ = some (.int .i64 d))
    (first | exact ⟨a0, a1, b0, b1⟩ | exact ⟨(World.cell?_alloc_lt wa _ ⟨w.heap.size, 0, none⟩ hlG).trans a0, (World.cell?_alloc_lt wa _ ⟨w.heap.size, 1, none⟩ hlG).trans a1, (World.cell?_alloc_lt wa _ ⟨w.heap.size + 1, 0, none⟩ hlE).trans b0, (World.cell?_alloc_lt wa _ ⟨w.heap.size + 1, 1, none⟩ hlE).trans b1⟩ | go_keep)
    (first
      | (go_at_call_of 171 (Value.int IntKind.i64 c); refine (Hc1.out _).mono ?_; rintro e w1 ⟨rfl, rfl⟩)
      | (go_at_call_of 171 (Value.int IntKind.i64 d); refine (Hc2.out _).mono ?_; rintro e w1 ⟨rfl, rfl⟩)
      | (go_at_call 170; refine Hor.out.mono ?_; rintro e w1 ⟨rfl, rfl⟩)
      | fail)
  all_goals go_wp2
  all_goals go_ret
  all_goals exact ⟨rfl, Hb2.out⟩
theorem singleRc_any (x : Rc) (v : LV) (w : World) (h : RcOk x) (hx : SlR w v.a x.rg.length v.c x.rg) :
    Calls Tryz.prog 198 #[.agg #[.int .i64 x.yr, .int .i64 x.cr, .slice v.a x.rg.length v.c]] w fun e w' => e = .returned (.int .i64 0) ∧ Below w.heap.size w w' := by
  obtain ⟨⟨a1, a2⟩, ⟨b1, b2⟩, hv, hn⟩ := h
  have HV := Lib.hid (fun W (h : SlR W v.a x.rg.length v.c x.rg) => valid_any v.a x.rg.length v.c x.rg W h)
  rw [hv] at HV
  have n1 : ¬ x.yr < 0 := by omega
  have n2 : ¬ (100 : Int) < x.yr := by omega
  have n3 : ¬ x.cr < 0 := by omega
  have n4 : ¬ (40 : Int) ≤ x.cr := by omega
  have n8 : ¬ (x.rg.length = 0) := by omega
  have n9 : ¬ ((x.rg.length : Int) = 0) := by omega
  have Hx := Lib.hid hx
  clear hx hv
  obtain ⟨n, hne⟩ : ∃ n, x.rg.length = n := ⟨_, rfl⟩
  rw [hne] at HV Hx n8 n9 ⊢
  clear hne hn
  go_enter Tryz.func198, Tryz.ntmps198
  go_upto_region 1 with fail
  obtain ⟨w1, hw1⟩ : ∃ w1 : World, w1 = w.alloc (.cells #[.int .i64 x.yr, .int .i64 x.cr, .slice v.a n v.c] 172) := ⟨_, rfl⟩
  rw [← hw1]
  have hr1 : w1.heap[w.heap.size]? = some (.cells #[.int .i64 x.yr, .int .i64 x.cr, .slice v.a n v.c] 172 (0, 0)) := by rw [hw1]; exact heap_alloc_new w _
  have Hb1 : Hid (Below w.heap.size w w1) := Lib.hid (by rw [hw1]; exact gBel)
  have hs1 : w.heap.size < w1.heap.size := by rw [hw1]; simp
  have Hx1 := Lib.hid (Hx.out.below Hb1.out)
  have c0 := cell_of_row _ _ 0 _ _ _ hr1
  have c1 := cell_of_row _ _ 1 _ _ _ hr1
  have c2 := cell_of_row _ _ 2 _ _ _ hr1
  clear hw1 hr1
  go_wp2_with (first
    | (go_at_call 48; refine (HV.out _ Hx1.out).mono ?_; rintro e w2 ⟨rfl, hb2⟩; have Hb2 := Lib.hid hb2; clear hb2)
    | fail)
  go_ret
  exact ⟨rfl, Hb1.out.trans (Hb2.out.mono (by omega))⟩
end Go.Proofs.YtfmkmhhghmdakaaGreatDoor
