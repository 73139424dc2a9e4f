/- Contract: the law's sanity check (regions). -/
import Derived.Test.YtmkopmcjilaedaaGreatR8
namespace Go.Proofs.YtmkopmcjilaedaaGreat
open Go.RowKit
set_option linter.unusedVariables false
set_option linter.unusedSimpArgs false

theorem awake_of : ofP [⟨0, 0, 2, 1⟩, ⟨1, 0, 3, 2⟩] = ([⟨0, 0, 3, 1⟩, ⟨1, 1, 3, 2⟩], 0) := by
  rw [ofP_eq]
  decide
theorem awake_valid : validP [⟨0, 0, 3, 1⟩, ⟨1, 1, 3, 2⟩] = true := by
  have h : ∀ q ∈ [(⟨0, 0, 3, 1⟩ : R4), ⟨1, 1, 3, 2⟩], q.l < q.r := by decide
  unfold validP
  rw [canonP_comb _ h]
  decide
theorem awake_area : areaP [⟨0, 0, 3, 1⟩, ⟨1, 1, 3, 2⟩] = 5 := by unfold areaP; rw [awake_valid]; decide
theorem awake_has : hasP [⟨0, 0, 3, 1⟩, ⟨1, 1, 3, 2⟩] 2 1 = true := by unfold hasP; rw [awake_valid]; decide
theorem awake_hasnt : hasP [⟨0, 0, 3, 1⟩, ⟨1, 1, 3, 2⟩] 0 1 = false := by unfold hasP; rw [awake_valid]; decide

theorem SlR.lit (w : World) (t : TypeId) (cs : Array Value) (l : List R4) (n B : Nat) (hB : B = w.heap.size) (hn : l.length = n) (hn1 : n ≤ 1000) (hc : rCells l = cs.toList) : SlR (w.alloc (.cells cs t)) (some ⟨B, 0, none⟩) n n l :=
  ⟨hn, Nat.le_refl _, by unfold maxLen; omega, Lies.new w t cs n _ hc B hB⟩

set_option maxHeartbeats 2000000 in
set_option maxRecDepth 100000 in
theorem awake_any (w : World) : Calls Tryz.prog 4 #[] w fun e w' => e = .returned (.bool true) ∧ Below w.heap.size w w' := by
  obtain ⟨L, hL⟩ : ∃ L : List R4, [⟨0, 0, 3, 1⟩, ⟨1, 1, 3, 2⟩] = L := ⟨_, rfl⟩
  have HL := Lib.hid hL
  have hln : L.length = 2 := by rw [← hL]; rfl
  have ho := awake_of
  rw [hL] at ho
  have Ho := Lib.hid ho
  have HV : Hid (∀ A c W, SlR W A 2 c L → Calls Tryz.prog 14 #[.agg #[.slice A 2 c]] W fun e w' => e = .returned (.bool true) ∧ Below W.heap.size W w') := Lib.hid (fun A c W h => by have := valid_any A 2 c L W h; rw [← hL, awake_valid] at this; exact this)
  have HA : Hid (∀ A c W, SlR W A 2 c L → Calls Tryz.prog 13 #[.agg #[.slice A 2 c]] W fun e w' => e = .returned (.int .i64 5) ∧ Below W.heap.size W w') := Lib.hid (fun A c W h => by have := area_any A 2 c L W h; rw [← hL, awake_area] at this; exact this)
  have HH1 : Hid (∀ A c W, SlR W A 2 c L → Calls Tryz.prog 15 #[.agg #[.slice A 2 c], .int .i64 2, .int .i64 1] W fun e w' => e = .returned (.bool true) ∧ Below W.heap.size W w') := Lib.hid (fun A c W h => by have := has_any A 2 c L 2 1 W h; rw [← hL, awake_has] at this; exact this)
  have HH2 : Hid (∀ A c W, SlR W A 2 c L → Calls Tryz.prog 15 #[.agg #[.slice A 2 c], .int .i64 0, .int .i64 1] W fun e w' => e = .returned (.bool false) ∧ Below W.heap.size W w') := Lib.hid (fun A c W h => by have := has_any A 2 c L 0 1 W h; rw [← hL, awake_hasnt] at this; exact this)
  have HRe : Hid (∀ A B c m W, SlR W A 2 c L → SlR W B 2 m L → Calls Tryz.prog 12 #[.slice A 2 c, .slice B 2 m] W fun e w' => e = .returned (.bool true) ∧ Below W.heap.size W w') := Lib.hid (fun A B c m W h h' => by have := rectsR_any A B 2 c 2 m L L W h h'; simpa using this)
  clear hL ho
  go_enter Tryz.func4, Tryz.ntmps4
  go_wp2_with (first
    | (go_at_call 7
       refine (of_any (some ⟨w.heap.size, 0, none⟩) 2 2 [⟨0, 0, 2, 1⟩, ⟨1, 0, 3, 2⟩] _ (SlR.lit _ _ _ _ _ _ rfl rfl (by omega) rfl)).mono ?_
       rintro e w1 ⟨v1, rfl, hown1, hb1⟩
       rw [Ho.out] at hown1 ⊢
       obtain ⟨C, cc, rfl, hC⟩ := SlR.of_own hown1
       simp only [hln] at hC ⊢
       have HC := Lib.hid hC
       have Hb1 : Hid (Below w.heap.size w w1) := Lib.hid (show Below w.heap.size w w1 from (by have hbq := hb1; exact (by repeat' (first | with_reducible exact Below.refl _ _ | with_reducible assumption | with_reducible refine below_drewN ?_ _ | with_reducible refine Below.drew ?_ | with_reducible refine Below.alloc ?_ ?_ _ | with_reducible refine Below.setCell ?_ ?_ _ | with_reducible refine Below.trans ?_ (Below.mono (by with_reducible assumption) ?_) | with_reducible refine below_only ?_ (by with_reducible assumption) ?_ ?_ | (simp; done) | (simp; omega) | omega))))
       have hs1 := Hb1.out.size
       clear hown1 hb1 hC)
    | (go_at_call 12
       refine (HRe.out C (some ⟨w1.heap.size + 1, 0, none⟩) cc 2 _ (HC.out.below (by repeat' (first | with_reducible exact Below.refl _ _ | with_reducible refine below_drewN ?_ _ | with_reducible refine Below.drew ?_ | with_reducible refine Below.alloc ?_ ?_ _ | with_reducible refine Below.setCell ?_ ?_ _ | with_reducible refine Below.trans ?_ (Below.mono (by with_reducible assumption) ?_) | (simp; done) | (simp; omega) | omega))) (SlR.lit _ _ _ _ _ _ (by simp) hln (by omega) (by rw [← HL.out]; rfl))).mono ?_
       rintro e w2 ⟨rfl, hb2⟩
       have Hb2 : Hid (Below w1.heap.size w1 w2) := Lib.hid (show Below w1.heap.size w1 w2 from (by have hbq := hb2; exact (by repeat' (first | with_reducible exact Below.refl _ _ | with_reducible assumption | with_reducible refine below_drewN ?_ _ | with_reducible refine Below.drew ?_ | with_reducible refine Below.alloc ?_ ?_ _ | with_reducible refine Below.setCell ?_ ?_ _ | with_reducible refine Below.trans ?_ (Below.mono (by with_reducible assumption) ?_) | with_reducible refine below_only ?_ (by with_reducible assumption) ?_ ?_ | (simp; done) | (simp; omega) | omega))))
       have hr2 : w2.heap[w1.heap.size]? = some (.cells #[.slice C 2 cc] 24 (0, 0)) := (hb2.block _ (by first | (simp; done) | (simp; omega))).trans ((Below.heap_alloc _ _ _ (by first | (simp; done) | (simp; omega))).trans (heap_alloc_new w1 _))
       have c2 := cell_of_row _ _ 0 _ _ _ hr2
       have hs2 : w1.heap.size < w2.heap.size := (by have := hb2.size; simp at this; omega)
       have Hr2 := Lib.hid hr2
       clear hb2 hr2)
    | (go_at_call 13
       refine (HA.out C cc _ (HC.out.below (Hb2.out.trans (Below.mono (by repeat' (first | with_reducible exact Below.refl _ _ | with_reducible refine below_drewN ?_ _ | with_reducible refine Below.drew ?_ | with_reducible refine Below.alloc ?_ ?_ _ | with_reducible refine Below.setCell ?_ ?_ _ | with_reducible refine Below.trans ?_ (Below.mono (by with_reducible assumption) ?_) | (simp; done) | (simp; omega) | omega)) Hb2.out.size)))).mono ?_
       rintro e w3 ⟨rfl, hb3⟩
       have Hb3 : Hid (Below w1.heap.size w1 w3) := Lib.hid (Hb2.out.trans (hb3.mono Hb2.out.size))
       have hr3 := (hb3.block _ hs2).trans Hr2.out
       have c3 := cell_of_row _ _ 0 _ _ _ hr3
       have hs3 : w1.heap.size < w3.heap.size := Nat.lt_of_lt_of_le hs2 hb3.size
       have Hr3 := Lib.hid hr3
       clear hb3 hr3)
    | (go_at_call 14
       refine (HV.out C cc _ (HC.out.below (Hb3.out.trans (Below.mono (by repeat' (first | with_reducible exact Below.refl _ _ | with_reducible refine below_drewN ?_ _ | with_reducible refine Below.drew ?_ | with_reducible refine Below.alloc ?_ ?_ _ | with_reducible refine Below.setCell ?_ ?_ _ | with_reducible refine Below.trans ?_ (Below.mono (by with_reducible assumption) ?_) | (simp; done) | (simp; omega) | omega)) Hb3.out.size)))).mono ?_
       rintro e w4 ⟨rfl, hb4⟩
       have Hb4 : Hid (Below w1.heap.size w1 w4) := Lib.hid (Hb3.out.trans (hb4.mono Hb3.out.size))
       have hr4 := (hb4.block _ hs3).trans Hr3.out
       have c4 := cell_of_row _ _ 0 _ _ _ hr4
       have hs4 : w1.heap.size < w4.heap.size := Nat.lt_of_lt_of_le hs3 hb4.size
       have Hr4 := Lib.hid hr4
       clear hb4 hr4)
    | (go_at_call 15
       have hguard := Hb5.out
       refine (HH2.out C cc _ (HC.out.below (Hb5.out.trans (Below.mono (by repeat' (first | with_reducible exact Below.refl _ _ | with_reducible refine below_drewN ?_ _ | with_reducible refine Below.drew ?_ | with_reducible refine Below.alloc ?_ ?_ _ | with_reducible refine Below.setCell ?_ ?_ _ | with_reducible refine Below.trans ?_ (Below.mono (by with_reducible assumption) ?_) | (simp; done) | (simp; omega) | omega)) Hb5.out.size)))).mono ?_
       rintro e w6 ⟨rfl, hb6⟩
       have Hb6 : Hid (Below w1.heap.size w1 w6) := Lib.hid (Hb5.out.trans (hb6.mono Hb5.out.size))
       clear hb6 hguard)
    | (go_at_call 15
       refine (HH1.out C cc _ (HC.out.below (Hb4.out.trans (Below.mono (by repeat' (first | with_reducible exact Below.refl _ _ | with_reducible refine below_drewN ?_ _ | with_reducible refine Below.drew ?_ | with_reducible refine Below.alloc ?_ ?_ _ | with_reducible refine Below.setCell ?_ ?_ _ | with_reducible refine Below.trans ?_ (Below.mono (by with_reducible assumption) ?_) | (simp; done) | (simp; omega) | omega)) Hb4.out.size)))).mono ?_
       rintro e w5 ⟨rfl, hb5⟩
       have Hb5 : Hid (Below w1.heap.size w1 w5) := Lib.hid (Hb4.out.trans (hb5.mono Hb4.out.size))
       have hr5 := (hb5.block _ hs4).trans Hr4.out
       have c5 := cell_of_row _ _ 0 _ _ _ hr5
       have hs5 : w1.heap.size < w5.heap.size := Nat.lt_of_lt_of_le hs4 hb5.size
       clear hb5 hr5)
    | fail)
  go_ret
  exact ⟨rfl, Hb1.out.trans (Hb6.out.mono hs1)⟩
end Go.Proofs.YtmkopmcjilaedaaGreat
