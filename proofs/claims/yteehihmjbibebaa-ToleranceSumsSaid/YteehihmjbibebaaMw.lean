/- Contract: the law's sanity check (tolerance). -/
import Derived.Test.YteehihmjbibebaaMv
import Derived.Test.YteehihmjbibebaaR9
namespace Go.Proofs.Yteehihmjbibebaa
open Go.RowKit
set_option linter.unusedVariables false
set_option linter.unusedSimpArgs false

theorem awake8_valid : validP [⟨0, 0, 10, 10⟩] = true := by
  have h : ∀ q ∈ [(⟨0, 0, 10, 10⟩ : R4)], q.l < q.r := by decide
  unfold validP
  rw [canonP_comb _ h]
  decide
theorem awake8_in : InS (10 : Nat) [⟨0, 0, 10, 10⟩] := by
  intro q hq
  simp at hq
  subst hq
  simp
theorem awake8_mea : meaV [⟨0, 0, 10, 10⟩] = (100, 40, 0) := by
  unfold meaV
  rw [awake8_valid, bordP_true _ 10 (by omega) awake8_in]
  decide +kernel

set_option maxHeartbeats 2000000 in
set_option maxRecDepth 100000 in
theorem awake8_any (w : World) : Calls Try.prog 9 #[] w fun e w' => e = .returned (.bool true) ∧ Below w.heap.size w w' := by
  have HM : Hid (∀ A c W, SlR W A 1 c [⟨0, 0, 10, 10⟩] → Calls Try.prog 13 #[.agg #[.slice A 1 c]] W fun e w' => e = .returned (.tuple #[.agg #[.int .i64 100, .int .i64 40], .int .i64 0]) ∧ Below W.heap.size W w') := Lib.hid (fun A c W h => by have := meaT_any A 1 c _ W h; rwa [awake8_mea] at this)
  have H1 : Hid (∀ W, Calls Try.prog 6 #[.agg #[.int .i64 100, .int .i64 40], .int .i64 50] W fun e w' => e = .returned (.tuple #[.int .i64 20, .int .i64 0]) ∧ Below W.heap.size W w') := Lib.hid (fun W => by have := marginT_any 100 40 50 W; rwa [show marginV 100 40 50 = 20 from by decide, show checkT 0 100 40 50 = 0 from by decide] at this)
  have H2 : Hid (∀ W, Calls Try.prog 7 #[.int .i64 115, .agg #[.int .i64 100, .int .i64 40], .int .i64 50] W fun e w' => e = .returned (.tuple #[.int .i64 115, .int .i64 0]) ∧ Below W.heap.size W w') := Lib.hid (fun W => by have := acceptT_any 115 100 40 50 W; rwa [show acceptV 115 100 40 50 = 115 from by decide, show checkT 115 100 40 50 = 0 from by decide] at this)
  have H3 : Hid (∀ W, Calls Try.prog 7 #[.int .i64 121, .agg #[.int .i64 100, .int .i64 40], .int .i64 50] W fun e w' => e = .returned (.tuple #[.int .i64 100, .int .i64 0]) ∧ Below W.heap.size W w') := Lib.hid (fun W => by have := acceptT_any 121 100 40 50 W; rwa [show acceptV 121 100 40 50 = 100 from by decide, show checkT 121 100 40 50 = 0 from by decide] at this)
  have H4 : Hid (∀ W, Calls Try.prog 8 #[.int .i64 121, .agg #[.int .i64 100, .int .i64 40], .int .i64 50] W fun e w' => e = .returned (.tuple #[.int .i64 (-1), .int .i64 0]) ∧ Below W.heap.size W w') := Lib.hid (fun W => by have := decideT_any 121 100 40 50 W; rwa [show decideV 121 100 40 50 = -1 from by decide, show checkT 121 100 40 50 = 0 from by decide] at this)
  go_enter Try.func9, Try.ntmps9
  go_upto_region 2 with (first
    | (go_at_call 13
       refine (HM.out (some ⟨w.heap.size, 0, none⟩) 1 _ (SlR.lit _ _ _ _ _ _ rfl rfl (by omega) rfl)).mono ?_
       rintro e w1 ⟨rfl, hb1⟩
       have Hb1 : Hid (Below w.heap.size w w1) := Lib.hid (by have hbq := hb1; exact (by repeat' (first | with_reducible exact Below.refl _ _ | with_reducible assumption | with_reducible refine below_drewN ?_ _ | with_reducible refine Below.drew ?_ | with_reducible refine Below.alloc ?_ ?_ _ | with_reducible refine Below.setCell ?_ ?_ _ | with_reducible refine Below.trans ?_ (Below.mono (by with_reducible assumption) ?_) | with_reducible refine below_only ?_ (by with_reducible assumption) ?_ ?_ | (simp; done) | (simp; omega) | omega)))
       have hs1 := Hb1.out.size
       clear hb1)
    | fail)
  obtain ⟨w2, hw2⟩ : ∃ w2 : World, w2 = w1.alloc (.cells #[.int .i64 100, .int .i64 40] 24) := ⟨_, rfl⟩
  rw [← hw2]
  have hr2 : w2.heap[w1.heap.size]? = some (.cells #[.int .i64 100, .int .i64 40] 24 (0, 0)) := by rw [hw2]; exact heap_alloc_new w1 _
  have hs2 : w1.heap.size < w2.heap.size := by rw [hw2]; simp
  have Hb2 : Hid (Below w.heap.size w w2) := Lib.hid (by rw [hw2]; exact Hb1.out.alloc hs1 _)
  have Hr2 := Lib.hid hr2
  have c0 := cell_of_row w2 w1.heap.size 0 _ _ _ hr2
  have c1 := cell_of_row w2 w1.heap.size 1 _ _ _ hr2
  clear hw2 hr2
  go_upto_region 3 with (first
    | (go_at_call 6
       refine (H1.out _).mono ?_
       rintro e w3 ⟨rfl, hb3⟩
       have Hr3 := Lib.hid ((hb3.block _ hs2).trans Hr2.out)
       have hs3 := Nat.lt_of_lt_of_le hs2 hb3.size
       have Hb3 : Hid (Below w.heap.size w w3) := Lib.hid (Hb2.out.trans (hb3.mono Hb2.out.size))
       have d0 := cell_of_row w3 w1.heap.size 0 _ _ _ Hr3.out
       have d1 := cell_of_row w3 w1.heap.size 1 _ _ _ Hr3.out
       clear hb3 c0 c1)
    | fail)
  go_upto_region 4 with (first
    | (go_at_call 7
       refine (H2.out _).mono ?_
       rintro e w4 ⟨rfl, hb4⟩
       have Hr4 := Lib.hid ((hb4.block _ hs3).trans Hr3.out)
       have hs4 := Nat.lt_of_lt_of_le hs3 hb4.size
       have Hb4 : Hid (Below w.heap.size w w4) := Lib.hid (Hb3.out.trans (hb4.mono Hb3.out.size))
       have e0 := cell_of_row w4 w1.heap.size 0 _ _ _ Hr4.out
       have e1 := cell_of_row w4 w1.heap.size 1 _ _ _ Hr4.out
       clear hb4 d0 d1)
    | fail)
  go_upto_region 5 with (first
    | (go_at_call 7
       refine (H3.out _).mono ?_
       rintro e w5 ⟨rfl, hb5⟩
       have Hr5 := Lib.hid ((hb5.block _ hs4).trans Hr4.out)
       have hs5 := Nat.lt_of_lt_of_le hs4 hb5.size
       have Hb5 : Hid (Below w.heap.size w w5) := Lib.hid (Hb4.out.trans (hb5.mono Hb4.out.size))
       have f0 := cell_of_row w5 w1.heap.size 0 _ _ _ Hr5.out
       have f1 := cell_of_row w5 w1.heap.size 1 _ _ _ Hr5.out
       clear hb5 e0 e1)
    | fail)
  go_upto_region 6 with (first
    | (go_at_call 8
       refine (H4.out _).mono ?_
       rintro e w6 ⟨rfl, hb6⟩
       have Hr6 := Lib.hid ((hb6.block _ hs5).trans Hr5.out)
       have Hb6 : Hid (Below w.heap.size w w6) := Lib.hid (Hb5.out.trans (hb6.mono Hb5.out.size))
       have g0 := cell_of_row w6 w1.heap.size 0 _ _ _ Hr6.out
       have g1 := cell_of_row w6 w1.heap.size 1 _ _ _ Hr6.out
       clear hb6 f0 f1)
    | fail)
  go_wp2
  go_ret
  exact ⟨rfl, Hb6.out⟩
end Go.Proofs.Yteehihmjbibebaa
