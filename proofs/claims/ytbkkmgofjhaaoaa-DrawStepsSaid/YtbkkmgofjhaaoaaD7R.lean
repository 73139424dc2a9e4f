/- Contract: New (the reference of draw). -/
import Derived.Test.YtbkkmgofjhaaoaaD7
namespace Go.Proofs.Ytbkkmgofjhaaoaa
open Go.RowKit
set_option linter.unusedVariables false
set_option linter.unusedSimpArgs false

set_option maxHeartbeats 16000000 in
set_option maxRecDepth 100000 in
theorem newR_any (x : Int) (w : World) : Calls Try.prog 27 #[.int .i64 x] w (DrEPost w (newE x)) := by
  by_cases hx : x < 1 ∨ 5 < x
  · have e0 : newE x = (zeroD, 2) := if_pos hx
    rw [e0]
    clear e0
    by_cases h1 : x < 1
    · clear hx
      go_enter Try.func27, Try.ntmps27
      go_wp2
      refine bodyPost_ret (v := .tuple #[.agg #[.int .i64 0, .slice none 0 0, .slice none 0 0, .slice none 0 0, .slice none 0 0], .int .i64 2]) (by simp [results, Try.results27, go_sem, *]) rfl ?_
      exact ⟨⟨none, 0, none, 0, none, 0, none, 0⟩, rfl, OwnD.zero _ _, (by repeat' (first | with_reducible exact Below.refl _ _ | with_reducible refine below_drewN ?_ _ | with_reducible refine Below.drew ?_ | with_reducible refine Below.alloc ?_ ?_ _ | with_reducible refine Below.setCell ?_ ?_ _ | with_reducible refine Below.trans ?_ (Below.mono (by with_reducible assumption) ?_) | (simp; done) | (simp; omega) | omega))⟩
    · have h5 : 5 < x := by omega
      clear hx
      go_enter Try.func27, Try.ntmps27
      go_wp2
      refine bodyPost_ret (v := .tuple #[.agg #[.int .i64 0, .slice none 0 0, .slice none 0 0, .slice none 0 0, .slice none 0 0], .int .i64 2]) (by simp [results, Try.results27, go_sem, *]) rfl ?_
      exact ⟨⟨none, 0, none, 0, none, 0, none, 0⟩, rfl, OwnD.zero _ _, (by repeat' (first | with_reducible exact Below.refl _ _ | with_reducible refine below_drewN ?_ _ | with_reducible refine Below.drew ?_ | with_reducible refine Below.alloc ?_ ?_ _ | with_reducible refine Below.setCell ?_ ?_ _ | with_reducible refine Below.trans ?_ (Below.mono (by with_reducible assumption) ?_) | (simp; done) | (simp; omega) | omega))⟩
  · have e0 : newE x = (newD x.toNat, 0) := if_neg hx
    rw [e0]
    obtain ⟨n, rfl⟩ := Int.eq_ofNat_of_zero_le (show 0 ≤ x by omega)
    have hn5 : n ≤ 5 := by omega
    have hn1 : 1 ≤ n := by omega
    have g1 : ¬ (n : Int) < 1 := by omega
    have g2 : ¬ 5 < (n : Int) := by omega
    obtain ⟨iu0, iuh, iuz0, iuz1, iuz2⟩ := info_parts Try.infoU
    obtain ⟨ib0, ibh, ibz0, ibz1, ibz2⟩ := info_parts Try.infoBo
    have m1 := fun W : World => run_make (P := Try.prog) W 23 27 iu0 _ Try.underlying23 iuh iuz0 .i64 .i64 n n (by omega) (Int.le_refl _) (by rw [iuz2]; omega) (by omega)
    have m2 := fun W : World => run_make (P := Try.prog) W 24 4 ib0 _ Try.underlying24 ibh ibz0 .i64 .i64 n n (by omega) (Int.le_refl _) (by rw [ibz2]; omega) (by omega)
    simp only [Int.toNat_natCast, iuz1, ibz1] at m1 m2
    obtain ⟨cu, hcu⟩ : ∃ cu, madeCells (Value.int IntKind.u64 0).cells (n * 1) = cu := ⟨_, rfl⟩
    obtain ⟨cb, hcb⟩ : ∃ cb, madeCells (Value.bool false).cells (n * 1) = cb := ⟨_, rfl⟩
    rw [hcu] at m1
    rw [hcb] at m2
    have Hcu : Hid (cu.toList = List.replicate n (.int .u64 0) ∧ cu.size = n) := Lib.hid (by rw [← hcu, Nat.mul_one]; exact ⟨toList_madeCells_one _ _, size_madeCells _ _⟩)
    have Hcb : Hid (cb.toList = List.replicate n (.bool false) ∧ cb.size = n) := Lib.hid (by rw [← hcb, Nat.mul_one]; exact ⟨toList_madeCells_one _ _, size_madeCells _ _⟩)
    simp only [Int.toNat_natCast]
    clear hx e0 hcu hcb iuh iuz0 iuz1 iuz2 ibh ibz0 ibz1 ibz2
    go_enter Try.func27, Try.ntmps27
    go_upto_region 3 with fail
    obtain ⟨w0, hw0⟩ : ∃ w0 : World, w0 = w.alloc (.cells #[.int .i64 0, .slice none 0 0, .slice none 0 0, .slice none 0 0, .slice none 0 0] 26) := ⟨_, rfl⟩
    rw [← hw0]
    have hz : w0.heap[w.heap.size]? = some (.cells #[.int .i64 0, .slice none 0 0, .slice none 0 0, .slice none 0 0, .slice none 0 0] 26 (0, 0)) := by rw [hw0]; exact heap_alloc_new w _
    have hs0 : w0.heap.size = w.heap.size + 1 := by rw [hw0]; simp
    have HB : Hid (Below w.heap.size w w0) := Lib.hid (by rw [hw0]; exact (by repeat' (first | with_reducible exact Below.refl _ _ | with_reducible refine below_drewN ?_ _ | with_reducible refine Below.drew ?_ | with_reducible refine Below.alloc ?_ ?_ _ | with_reducible refine Below.setCell ?_ ?_ _ | with_reducible refine Below.trans ?_ (Below.mono (by with_reducible assumption) ?_) | (simp; done) | (simp; omega) | omega)))
    have c00 := cell_of_row w0 w.heap.size 0 _ _ _ hz
    have f00 := frozen_of_row w0 w.heap.size 0 _ _ hz
    have c01 := cell_of_row w0 w.heap.size 1 _ _ _ hz
    have f01 := frozen_of_row w0 w.heap.size 1 _ _ hz
    have c02 := cell_of_row w0 w.heap.size 2 _ _ _ hz
    have f02 := frozen_of_row w0 w.heap.size 2 _ _ hz
    have c03 := cell_of_row w0 w.heap.size 3 _ _ _ hz
    have f03 := frozen_of_row w0 w.heap.size 3 _ _ hz
    have c04 := cell_of_row w0 w.heap.size 4 _ _ _ hz
    have f04 := frozen_of_row w0 w.heap.size 4 _ _ hz
    clear hw0
    go_region_held3 (fun w' => True)
      (first | trivial)
      (first | fail)
    all_goals go_wp2
    all_goals
      with_reducible refine new_leaf hz (by omega) (fun w h0 h1 h2 h3 h4 => by simp [results, Try.results27, go_sem, h0, h1, h2, h3, h4]) (fun W hW hWb => ?_)
      have l1 : (newD n).se.length = n := by simp [newD]
      have l2 : (newD n).sd.length = n := by simp [newD]
      have l3 : (newD n).sx.length = n := by simp [newD]
      have l4 : (newD n).rv.length = n := by simp [newD]
      have r1 : (newD n).se.map (Value.int .u64) = cu.toList := by rw [Hcu.out.1]; simp [newD]
      have r2 : (newD n).sd.map Value.bool = cb.toList := by rw [Hcb.out.1]; simp [newD]
      have r3 : (newD n).sx.map (Value.int .u64) = cu.toList := by rw [Hcu.out.1]; simp [newD]
      have r4 : (newD n).rv.map Value.bool = cb.toList := by rw [Hcb.out.1]; simp [newD]
      have hm : n ≤ maxLen := by unfold maxLen; omega
      refine ⟨⟨some ⟨_, 0, none⟩, n, some ⟨_, 0, none⟩, n, some ⟨_, 0, none⟩, n, some ⟨_, 0, none⟩, n⟩, by rw [l1, l2, l3, l4]; rfl, ⟨?_, ?_, ?_, ?_, ?_, ?_, ?_, ?_, ?_, ?_⟩, Below.drew (((((HB.out.trans (hWb _ (Nat.le_refl _))).alloc (by omega) _).alloc (by simp; omega) _).alloc (by simp; omega) _).alloc (by simp; omega) _)⟩
      · rw [l1, r1]; first | with_reducible exact own_p1 (by omega) (by omega) Hcu.out.2 hm | with_reducible exact own_p2 (by omega) (by omega) Hcu.out.2 hm | with_reducible exact own_p3 (by omega) (by omega) Hcu.out.2 hm | with_reducible exact own_p4 (by omega) (by omega) Hcu.out.2 hm
      · rw [l2, r2]; first | with_reducible exact own_p1 (by omega) (by omega) Hcb.out.2 hm | with_reducible exact own_p2 (by omega) (by omega) Hcb.out.2 hm | with_reducible exact own_p3 (by omega) (by omega) Hcb.out.2 hm | with_reducible exact own_p4 (by omega) (by omega) Hcb.out.2 hm
      · rw [l3, r3]; first | with_reducible exact own_p1 (by omega) (by omega) Hcu.out.2 hm | with_reducible exact own_p2 (by omega) (by omega) Hcu.out.2 hm | with_reducible exact own_p3 (by omega) (by omega) Hcu.out.2 hm | with_reducible exact own_p4 (by omega) (by omega) Hcu.out.2 hm
      · rw [l4, r4]; first | with_reducible exact own_p1 (by omega) (by omega) Hcb.out.2 hm | with_reducible exact own_p2 (by omega) (by omega) Hcb.out.2 hm | with_reducible exact own_p3 (by omega) (by omega) Hcb.out.2 hm | with_reducible exact own_p4 (by omega) (by omega) Hcb.out.2 hm
      all_goals (simp only [l1, l2, l3, l4]; exact Apart.blocks (by omega))
end Go.Proofs.Ytbkkmgofjhaaoaa
