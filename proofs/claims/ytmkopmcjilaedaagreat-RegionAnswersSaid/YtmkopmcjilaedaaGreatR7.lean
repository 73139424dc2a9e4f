/- Contracts: canonical, Of, Valid (regions). -/
import Derived.Test.YtmkopmcjilaedaaGreatR6
import Derived.Test.YtmkopmcjilaedaaGreatR1
import Derived.Test.YtmkopmcjilaedaaGreatR2
import Derived.Test.YtmkopmcjilaedaaGreatR3
import Derived.Test.YtmkopmcjilaedaaGreatGs
namespace Go.Proofs.YtmkopmcjilaedaaGreat
open Go.RowKit
set_option linter.unusedVariables false
set_option linter.unusedSimpArgs false

set_option maxHeartbeats 400000 in
theorem canonRow_any (g : Nat) (A : Option Addr) (n c : Nat) (l : List R4) (y : Int) (w : World) (hg : w.cell? ⟨g, 0, none⟩ = some (.slice A n c)) (hA : SlR w A n c l) (hn1 : n ≤ 100000) (hl : ∀ q ∈ l, q.l < q.r) :
    Calls Tryz.prog 49 #[.int .i64 y, .pointer (some ⟨g, 0, none⟩)] w fun e w' => ∃ v, e = .returned v ∧ w'.ownsRow w.heap.size 74 2 v (rowP l y).length (sCells (rowP l y)) ∧ Below w.heap.size w w' := by
  have HA := Lib.hid hA
  have Hl := Lib.hid hl
  clear hA hl
  go_enter Tryz.func49, Tryz.ntmps49
  go_wp2_with (first | (go_at_call 50; refine (row_any A n c l y _ (HA.out.below (by repeat' (first | with_reducible exact Below.refl _ _ | with_reducible refine below_drewN ?_ _ | with_reducible refine Below.drew ?_ | with_reducible refine Below.alloc ?_ ?_ _ | with_reducible refine Below.setCell ?_ ?_ _ | with_reducible refine Below.trans ?_ (Below.mono (by with_reducible assumption) ?_) | (simp; done) | (simp; omega) | omega))) hn1 Hl.out).mono ?_; rintro e w1 ⟨v1, rfl, hown1, hb1⟩; have Hown1 := Lib.hid hown1; have Hb1 := Lib.hid hb1; clear hown1 hb1) | fail)
  go_ret
  exact ⟨v1, rfl, Hown1.out, Hb1.out⟩

set_option maxHeartbeats 1000000 in
theorem canonical_any (A : Option Addr) (n c : Nat) (l : List R4) (w : World) (hA : SlR w A n c l) (hn1 : n ≤ 1500) (hl : ∀ q ∈ l, q.l < q.r) :
    Calls Tryz.prog 23 #[.slice A n c] w fun e w' => ∃ v, e = .returned v ∧ w'.ownsRow w.heap.size 39 4 v (canonP l).length (rCells (canonP l)) ∧ Below w.heap.size w w' := by
  have hn := hA.len
  have HA := Lib.hid hA
  have Hl := Lib.hid hl
  have Hcl : Hid ((cutsP l).length ≤ 2 * n) := Lib.hid (by have h1 := (asc_all (yEdges l)).2.2; rw [yEdges_len] at h1; unfold cutsP; omega)
  have Hflat : Hid (cutsP [l].flatten = cutsP l) := Lib.hid (by simp)
  have Hcan : Hid (buildP (rowP l) (cutsP l) = canonP l) := Lib.hid rfl
  have Hrl := Lib.hid (fun y => rowP_len l y)
  have eg : ∀ args w, (callFunc 49 args).run Tryz.prog w = .ok (.enter 49 args) w := enters_of Tryz.func49 (by kernel_rfl) rfl
  have Eg := Lib.hid eg
  clear hA hl eg
  go_enter Tryz.func23, Tryz.ntmps23
  go_wp2_with (first
    | (go_at_call 48
       refine (cuts_any (some ⟨w.heap.size + 1, 0, none⟩) 1 1 [l] _ rfl (by omega) (fun i hi => ⟨w.heap.size + 1, 0, A, n, c, rfl, by simp, by obtain rfl : i = 0 := (by simpa using hi); exact cell_of_row _ (w.heap.size + 1) 0 _ _ _ (heap_alloc2_new w _ _), by obtain rfl : i = 0 := (by simpa using hi); exact HA.out.below (by repeat' (first | with_reducible exact Below.refl _ _ | with_reducible refine below_drewN ?_ _ | with_reducible refine Below.drew ?_ | with_reducible refine Below.alloc ?_ ?_ _ | with_reducible refine Below.setCell ?_ ?_ _ | with_reducible refine Below.trans ?_ (Below.mono (by with_reducible assumption) ?_) | (simp; done) | (simp; omega) | omega))⟩) (by simp; omega)).mono ?_
       rintro e w1 ⟨v1, rfl, hown1, hb1⟩
       rw [Hflat.out] at hown1
       obtain ⟨C, cc, rfl, hC⟩ := SlI.of_own hown1
       have HC := Lib.hid hC
       have Hb1 : Hid (Below w.heap.size w w1) := Lib.hid (show Below w.heap.size w w1 from (by have hbq := hb1; exact (by repeat' (first | with_reducible exact Below.refl _ _ | with_reducible assumption | with_reducible refine below_drewN ?_ _ | with_reducible refine Below.drew ?_ | with_reducible refine Below.alloc ?_ ?_ _ | with_reducible refine Below.setCell ?_ ?_ _ | with_reducible refine Below.trans ?_ (Below.mono (by with_reducible assumption) ?_) | with_reducible refine below_only ?_ (by with_reducible assumption) ?_ ?_ | (simp; done) | (simp; omega) | omega))))
       have hs1 : w.heap.size < w1.heap.size := (by have := hb1.size; simp at this; omega)
       have cg1 : w1.cell? ⟨w.heap.size, 0, none⟩ = some (.slice A n c) := (hb1.cell (p := ⟨w.heap.size, 0, none⟩) (by simp; omega)).trans (cell_of_row _ w.heap.size 0 _ _ _ ((Below.heap_alloc _ _ _ (by simp)).trans (heap_alloc_new w _)))
       clear hown1 hb1 hC)
    | (go_at_call 47
       refine (build_any 49 #[.pointer (some ⟨w.heap.size, 0, none⟩)] (rowP l) n C (cutsP l).length cc (cutsP l) w1 HC.out (by have := Hcl.out; omega) (fun y => by have := Hrl.out y; omega) (by omega) (by have h1 := Nat.mul_le_mul_right n Hcl.out; have h2 : n * n ≤ 1500 * 1500 := Nat.mul_le_mul hn1 hn1; rw [Nat.mul_assoc] at h1; omega) Eg.out (fun W y hW => canonRow_any w.heap.size A n c l y W ((hW.cell (p := ⟨w.heap.size, 0, none⟩) hs1).trans cg1) (HA.out.below (Hb1.out.trans (hW.mono (Nat.le_of_lt hs1)))) (by omega) Hl.out)).mono ?_
       rintro e w2 ⟨v2, rfl, hown2, hb2⟩
       rw [Hcan.out] at hown2
       have Hown2 := Lib.hid hown2
       have Hb2 := Lib.hid hb2
       clear hown2 hb2)
    | fail)
  go_ret
  exact ⟨v2, rfl, own_rebase Hown2.out (Nat.le_of_lt hs1), Hb1.out.trans (Hb2.out.mono (Nat.le_of_lt hs1))⟩

set_option maxHeartbeats 400000 in
theorem validPred (w : World) : PredBelow Tryz.prog 42 #[] (fun q : R4 => .agg (R4.cells q).toArray) (fun q => !q.ok) w := by
  intro W q hb
  refine Calls.mono (show Calls Tryz.prog 42 #[.agg #[.int .i64 q.l, .int .i64 q.b, .int .i64 q.r, .int .i64 q.t]] W fun e w' => e = .returned (.bool (!q.ok)) ∧ Below W.heap.size W w' from ?_) ?_
  · have Hp := Lib.hid (fun W => properP_any q W)
    generalize q.ok = x at *
    go_enter Tryz.func42, Tryz.ntmps42
    go_wp2_with (first | (go_at_call 21; refine (Hp.out _).mono ?_; rintro e w1 ⟨rfl, hb1⟩) | fail)
    go_ret
    exact ⟨rfl, (by repeat' (first | with_reducible exact Below.refl _ _ | with_reducible assumption | with_reducible refine below_drewN ?_ _ | with_reducible refine Below.drew ?_ | with_reducible refine Below.alloc ?_ ?_ _ | with_reducible refine Below.setCell ?_ ?_ _ | with_reducible refine Below.trans ?_ (Below.mono (by with_reducible assumption) ?_) | with_reducible refine below_only ?_ (by with_reducible assumption) ?_ ?_ | (simp; done) | (simp; omega) | omega))⟩
  · rintro e w' ⟨rfl, h⟩
    exact ⟨rfl, hb.trans (h.mono hb.size)⟩

set_option maxHeartbeats 2000000 in
set_option maxRecDepth 100000 in
theorem valid_any (A : Option Addr) (n c : Nat) (l : List R4) (w : World) (hA : SlR w A n c l) :
    Calls Tryz.prog 14 #[.agg #[.slice A n c]] w fun e w' => e = .returned (.bool (validP l)) ∧ Below w.heap.size w w' := by
  have hn := hA.len
  have HA := Lib.hid hA
  clear hA
  have egv : ∀ args w, (callFunc 42 args).run Tryz.prog w = .ok (.enter 42 args) w := enters_of Tryz.func42 (by kernel_rfl) rfl
  have Egv := Lib.hid egv
  clear egv
  by_cases hbig : 120 < n
  · have hv : validP l = false := by unfold validP; rw [decide_eq_false (by omega)]; rfl
    have hb' : (120 : Int) < (n : Int) := by omega
    rw [hv]
    clear hv
    go_enter Tryz.func14, Tryz.ntmps14
    go_wp2
    go_ret
    exact ⟨rfl, (by repeat' (first | with_reducible exact Below.refl _ _ | with_reducible refine below_drewN ?_ _ | with_reducible refine Below.drew ?_ | with_reducible refine Below.alloc ?_ ?_ _ | with_reducible refine Below.setCell ?_ ?_ _ | with_reducible refine Below.trans ?_ (Below.mono (by with_reducible assumption) ?_) | (simp; done) | (simp; omega) | omega))⟩
  · have hb' : ¬ (120 : Int) < (n : Int) := by omega
    have hv : validP l = (l.all R4.ok && decide (canonP l = l)) := by unfold validP; rw [decide_eq_true (by omega)]; rfl
    rw [hv]
    clear hv
    have Hany := Lib.hid (any_not_all l R4.ok)
    cases hall : l.all R4.ok with
    | false =>
      rw [hall] at Hany
      clear hall
      go_enter Tryz.func14, Tryz.ntmps14
      go_wp2_with (first | (go_at_call 19; refine (containsR_any (fun q => !q.ok) 42 #[] Egv.out A n c l _ (HA.out.below (by repeat' (first | with_reducible exact Below.refl _ _ | with_reducible refine below_drewN ?_ _ | with_reducible refine Below.drew ?_ | with_reducible refine Below.alloc ?_ ?_ _ | with_reducible refine Below.setCell ?_ ?_ _ | with_reducible refine Below.trans ?_ (Below.mono (by with_reducible assumption) ?_) | (simp; done) | (simp; omega) | omega))) (validPred _)).mono ?_; rintro e w1 ⟨rfl, hb1⟩; rw [Hany.out]) | fail)
      go_ret
      exact ⟨rfl, (by repeat' (first | with_reducible exact Below.refl _ _ | with_reducible assumption | with_reducible refine below_drewN ?_ _ | with_reducible refine Below.drew ?_ | with_reducible refine Below.alloc ?_ ?_ _ | with_reducible refine Below.setCell ?_ ?_ _ | with_reducible refine Below.trans ?_ (Below.mono (by with_reducible assumption) ?_) | with_reducible refine below_only ?_ (by with_reducible assumption) ?_ ?_ | (simp; done) | (simp; omega) | omega))⟩
    | true =>
      have Hl := Lib.hid (ok_pos hall)
      rw [hall] at Hany
      clear hall
      obtain ⟨cl, hcl⟩ : ∃ cl, canonP l = cl := ⟨_, rfl⟩
      have Hcl := Lib.hid hcl
      rw [hcl]
      obtain ⟨rs, hrs⟩ : ∃ rs, decide (cl = l) = rs := ⟨_, rfl⟩
      have Hrs := Lib.hid hrs
      rw [hrs]
      clear hcl hrs
      go_enter Tryz.func14, Tryz.ntmps14
      go_wp2_with (first | (go_at_call 19; refine (containsR_any (fun q => !q.ok) 42 #[] Egv.out A n c l _ (HA.out.below (by repeat' (first | with_reducible exact Below.refl _ _ | with_reducible refine below_drewN ?_ _ | with_reducible refine Below.drew ?_ | with_reducible refine Below.alloc ?_ ?_ _ | with_reducible refine Below.setCell ?_ ?_ _ | with_reducible refine Below.trans ?_ (Below.mono (by with_reducible assumption) ?_) | (simp; done) | (simp; omega) | omega))) (validPred _)).mono ?_; rintro e w1 ⟨rfl, hb1⟩; rw [Hany.out]; have Hb1 : Hid (Below w.heap.size w w1) := Lib.hid (show Below w.heap.size w w1 from (by have hbq := hb1; exact (by repeat' (first | with_reducible exact Below.refl _ _ | with_reducible assumption | with_reducible refine below_drewN ?_ _ | with_reducible refine Below.drew ?_ | with_reducible refine Below.alloc ?_ ?_ _ | with_reducible refine Below.setCell ?_ ?_ _ | with_reducible refine Below.trans ?_ (Below.mono (by with_reducible assumption) ?_) | with_reducible refine below_only ?_ (by with_reducible assumption) ?_ ?_ | (simp; done) | (simp; omega) | omega)))); have hs1 : w.heap.size < w1.heap.size := (by have := hb1.size; simp at this; omega); have cg1 : w1.cell? ⟨w.heap.size, 0, none⟩ = some (.slice A n c) := (hb1.cell (p := ⟨w.heap.size, 0, none⟩) (by simp)).trans (cell_of_row _ w.heap.size 0 _ _ _ (heap_alloc_new w _)); clear hb1) | fail)
      go_region_held3 (fun w' => w'.cell? ⟨w.heap.size, 0, none⟩ = some (.slice A n c))
        (first | go_keep | exact (Hb2.out.cell (p := ⟨w.heap.size, 0, none⟩) hs1).trans cg1)
        (first
          | (go_at_call 23
             refine (canonical_any A n c l _ (HA.out.below (Hb1.out.trans (Below.mono (by repeat' (first | with_reducible exact Below.refl _ _ | with_reducible refine below_drewN ?_ _ | with_reducible refine Below.drew ?_ | with_reducible refine Below.alloc ?_ ?_ _ | with_reducible refine Below.setCell ?_ ?_ _ | with_reducible refine Below.trans ?_ (Below.mono (by with_reducible assumption) ?_) | (simp; done) | (simp; omega) | omega)) (Nat.le_of_lt hs1)))) (by omega) Hl.out).mono ?_
             rintro e w2 ⟨v2, rfl, hown2, hb2⟩
             rw [Hcl.out] at hown2
             obtain ⟨C, cc, rfl, hC⟩ := SlR.of_own hown2
             have HC := Lib.hid hC
             have Hb2 : Hid (Below w1.heap.size w1 w2) := Lib.hid (show Below w1.heap.size w1 w2 from (by have hbq := hb2; exact (by repeat' (first | with_reducible exact Below.refl _ _ | with_reducible assumption | with_reducible refine below_drewN ?_ _ | with_reducible refine Below.drew ?_ | with_reducible refine Below.alloc ?_ ?_ _ | with_reducible refine Below.setCell ?_ ?_ _ | with_reducible refine Below.trans ?_ (Below.mono (by with_reducible assumption) ?_) | with_reducible refine below_only ?_ (by with_reducible assumption) ?_ ?_ | (simp; done) | (simp; omega) | omega))))
             have cg2 := (Hb2.out.cell (p := ⟨w.heap.size, 0, none⟩) hs1).trans cg1
             clear hown2 hb2 hC)
          | (go_at_call 43
             refine (equalR_any C A cl.length cc n c cl l _ (HC.out.below (by repeat' (first | with_reducible exact Below.refl _ _ | with_reducible refine below_drewN ?_ _ | with_reducible refine Below.drew ?_ | with_reducible refine Below.alloc ?_ ?_ _ | with_reducible refine Below.setCell ?_ ?_ _ | with_reducible refine Below.trans ?_ (Below.mono (by with_reducible assumption) ?_) | (simp; done) | (simp; omega) | omega))) (HA.out.below (Hb1.out.trans ((Hb2.out.trans (Below.mono (by repeat' (first | with_reducible exact Below.refl _ _ | with_reducible refine below_drewN ?_ _ | with_reducible refine Below.drew ?_ | with_reducible refine Below.alloc ?_ ?_ _ | with_reducible refine Below.setCell ?_ ?_ _ | with_reducible refine Below.trans ?_ (Below.mono (by with_reducible assumption) ?_) | (simp; done) | (simp; omega) | omega)) Hb2.out.size)).mono (Nat.le_of_lt hs1))))).mono ?_
             rintro e w3 ⟨rfl, hb3⟩
             rw [Hrs.out]
             have Hb3 : Hid (Below w2.heap.size w2 w3) := Lib.hid (show Below w2.heap.size w2 w3 from (by have hbq := hb3; exact (by repeat' (first | with_reducible exact Below.refl _ _ | with_reducible assumption | with_reducible refine below_drewN ?_ _ | with_reducible refine Below.drew ?_ | with_reducible refine Below.alloc ?_ ?_ _ | with_reducible refine Below.setCell ?_ ?_ _ | with_reducible refine Below.trans ?_ (Below.mono (by with_reducible assumption) ?_) | with_reducible refine below_only ?_ (by with_reducible assumption) ?_ ?_ | (simp; done) | (simp; omega) | omega))))
             have cg3 := (Hb3.out.cell (p := ⟨w.heap.size, 0, none⟩) (Nat.lt_of_lt_of_le hs1 Hb2.out.size)).trans cg2
             clear hb3)
          | fail)
      all_goals go_wp2
      all_goals go_ret
      all_goals exact ⟨rfl, Hb1.out.trans ((Hb2.out.trans (Hb3.out.mono Hb2.out.size)).mono (Nat.le_of_lt hs1))⟩

set_option maxHeartbeats 4000000 in
set_option maxRecDepth 100000 in
theorem of_any (A : Option Addr) (n c : Nat) (l : List R4) (w : World) (hA : SlR w A n c l) :
    Calls Tryz.prog 7 #[.slice A n c] w (RegPost w (ofP l)) := by
  have hn := hA.len
  have HA := Lib.hid hA
  clear hA
  have egv : ∀ args w, (callFunc 20 args).run Tryz.prog w = .ok (.enter 20 args) w := enters_of Tryz.func20 (by kernel_rfl) rfl
  have Egv := Lib.hid egv
  clear egv
  by_cases hbig : 120 < n
  · have hb' : (120 : Int) < (n : Int) := by omega
    have e0 : ofP l = ([], 1) := by unfold ofP; rw [if_pos (by omega)]
    rw [e0]
    clear e0
    go_enter Tryz.func7, Tryz.ntmps7
    go_wp2
    refine bodyPost_ret (v := .tuple #[.agg #[.slice none 0 0], .int .i64 1]) (by simp [results, Tryz.results7, go_sem, *]) rfl ?_
    exact ⟨_, rfl, World.ownsRow_nil _ _ _ _, (by repeat' (first | with_reducible exact Below.refl _ _ | with_reducible refine below_drewN ?_ _ | with_reducible refine Below.drew ?_ | with_reducible refine Below.alloc ?_ ?_ _ | with_reducible refine Below.setCell ?_ ?_ _ | with_reducible refine Below.trans ?_ (Below.mono (by with_reducible assumption) ?_) | (simp; done) | (simp; omega) | omega))⟩
  · have hb' : ¬ (120 : Int) < (n : Int) := by omega
    have Hany := Lib.hid (any_not_all l R4.ok)
    cases hall : l.all R4.ok with
    | false =>
      have e0 : ofP l = ([], 2) := by unfold ofP; rw [if_neg (by omega), hall]; rfl
      rw [e0]
      rw [hall] at Hany
      clear hall e0
      go_enter Tryz.func7, Tryz.ntmps7
      go_wp2_with (first | (go_at_call 19; refine (containsR_any (fun q => !q.ok) 20 #[] Egv.out A n c l _ (HA.out.below (by repeat' (first | with_reducible exact Below.refl _ _ | with_reducible refine below_drewN ?_ _ | with_reducible refine Below.drew ?_ | with_reducible refine Below.alloc ?_ ?_ _ | with_reducible refine Below.setCell ?_ ?_ _ | with_reducible refine Below.trans ?_ (Below.mono (by with_reducible assumption) ?_) | (simp; done) | (simp; omega) | omega))) (ofPred _)).mono ?_; rintro e w1 ⟨rfl, hb1⟩; rw [Hany.out]; have hr1 : w1.heap[w.heap.size]? = some (.cells #[.slice none 0 0] 24 (0, 0)) := (hb1.block _ (by simp)).trans (heap_alloc_new w _); have cr1 := cell_of_row w1 w.heap.size 0 _ _ _ hr1; have fr1 := frozen_of_row w1 w.heap.size 0 _ _ hr1; have csame : (w1.setCell ⟨w.heap.size, 0, none⟩ (.slice none 0 0)).cell? ⟨w.heap.size, 0, none⟩ = some (.slice none 0 0) := (by rw [cell_of_row _ w.heap.size 0 _ _ _ (heap_setCell_same w1 w.heap.size 0 _ _ _ hr1)]; simp); have Hb1 : Hid (Below w.heap.size w w1) := Lib.hid (show Below w.heap.size w w1 from (by have hbq := hb1; exact (by repeat' (first | with_reducible exact Below.refl _ _ | with_reducible assumption | with_reducible refine below_drewN ?_ _ | with_reducible refine Below.drew ?_ | with_reducible refine Below.alloc ?_ ?_ _ | with_reducible refine Below.setCell ?_ ?_ _ | with_reducible refine Below.trans ?_ (Below.mono (by with_reducible assumption) ?_) | with_reducible refine below_only ?_ (by with_reducible assumption) ?_ ?_ | (simp; done) | (simp; omega) | omega)))); clear hb1 hr1) | fail)
      refine bodyPost_ret (v := .tuple #[.agg #[.slice none 0 0], .int .i64 2]) (by simp [results, Tryz.results7, go_sem, *]) rfl ?_
      exact ⟨_, rfl, World.ownsRow_nil _ _ _ _, Hb1.out.setCell (Nat.le_refl _) _⟩
    | true =>
      have Hl := Lib.hid (ok_pos hall)
      have e0 : ofP l = if 120 < (canonP l).length then ([], 1) else (canonP l, 0) := by unfold ofP; rw [if_neg (by omega), if_pos hall]
      rw [e0]
      rw [hall] at Hany
      clear hall e0
      obtain ⟨cl, hcl⟩ : ∃ cl, canonP l = cl := ⟨_, rfl⟩
      have Hcl := Lib.hid hcl
      rw [hcl]
      clear hcl
      by_cases hbg : 120 < cl.length
      · rw [if_pos hbg]
        go_enter Tryz.func7, Tryz.ntmps7
        go_wp2_with (first
          | (go_at_call 19; refine (containsR_any (fun q => !q.ok) 20 #[] Egv.out A n c l _ (HA.out.below (by repeat' (first | with_reducible exact Below.refl _ _ | with_reducible refine below_drewN ?_ _ | with_reducible refine Below.drew ?_ | with_reducible refine Below.alloc ?_ ?_ _ | with_reducible refine Below.setCell ?_ ?_ _ | with_reducible refine Below.trans ?_ (Below.mono (by with_reducible assumption) ?_) | (simp; done) | (simp; omega) | omega))) (ofPred _)).mono ?_; rintro e w1 ⟨rfl, hb1⟩; rw [Hany.out]; have hr1 : w1.heap[w.heap.size]? = some (.cells #[.slice none 0 0] 24 (0, 0)) := (hb1.block _ (by simp)).trans (heap_alloc_new w _); have Hr1 := Lib.hid hr1; have hs1 : w.heap.size < w1.heap.size := (by have := hb1.size; simp at this; omega); have Hb1 : Hid (Below w.heap.size w w1) := Lib.hid (show Below w.heap.size w w1 from (by have hbq := hb1; exact (by repeat' (first | with_reducible exact Below.refl _ _ | with_reducible assumption | with_reducible refine below_drewN ?_ _ | with_reducible refine Below.drew ?_ | with_reducible refine Below.alloc ?_ ?_ _ | with_reducible refine Below.setCell ?_ ?_ _ | with_reducible refine Below.trans ?_ (Below.mono (by with_reducible assumption) ?_) | with_reducible refine below_only ?_ (by with_reducible assumption) ?_ ?_ | (simp; done) | (simp; omega) | omega)))); clear hb1 hr1)
          | (go_at_call 23; refine (canonical_any A n c l _ (HA.out.below (Hb1.out.trans (Below.mono (by repeat' (first | with_reducible exact Below.refl _ _ | with_reducible refine below_drewN ?_ _ | with_reducible refine Below.drew ?_ | with_reducible refine Below.alloc ?_ ?_ _ | with_reducible refine Below.setCell ?_ ?_ _ | with_reducible refine Below.trans ?_ (Below.mono (by with_reducible assumption) ?_) | (simp; done) | (simp; omega) | omega)) (Nat.le_of_lt hs1)))) (by omega) Hl.out).mono ?_; rintro e w2 ⟨v2, rfl, hown2, hb2⟩; rw [Hcl.out] at hown2; obtain ⟨C, cc, rfl, hC⟩ := SlR.of_own hown2; have Hb2 := Lib.hid hb2; clear hown2 hb2 hC)
          | (go_at_call 22; refine (limited_big C cl.length cc _ hbg).mono ?_; rintro e w3 ⟨rfl, hb3⟩; have hr3 : w3.heap[w.heap.size]? = some (.cells #[.slice none 0 0] 24 (0, 0)) := (hb3.block _ (by have := Hb2.out.size; omega)).trans ((Hb2.out.block _ hs1).trans Hr1.out); have cr3 := cell_of_row w3 w.heap.size 0 _ _ _ hr3; have fr3 := frozen_of_row w3 w.heap.size 0 _ _ hr3; have csame : (w3.setCell ⟨w.heap.size, 0, none⟩ (.slice none 0 0)).cell? ⟨w.heap.size, 0, none⟩ = some (.slice none 0 0) := (by rw [cell_of_row _ w.heap.size 0 _ _ _ (heap_setCell_same w3 w.heap.size 0 _ _ _ hr3)]; simp); have Hb3 := Lib.hid hb3; clear hb3 hr3)
          | fail)
        refine bodyPost_ret (v := .tuple #[.agg #[.slice none 0 0], .int .i64 1]) (by simp [results, Tryz.results7, go_sem, *]) rfl ?_
        exact ⟨_, rfl, World.ownsRow_nil _ _ _ _, (Hb1.out.trans ((Hb2.out.trans (Hb3.out.mono Hb2.out.size)).mono (Nat.le_of_lt hs1))).setCell (Nat.le_refl _) _⟩
      · rw [if_neg hbg]
        have hbg' : cl.length ≤ 120 := by omega
        go_enter Tryz.func7, Tryz.ntmps7
        go_wp2_with (first
          | (go_at_call 19; refine (containsR_any (fun q => !q.ok) 20 #[] Egv.out A n c l _ (HA.out.below (by repeat' (first | with_reducible exact Below.refl _ _ | with_reducible refine below_drewN ?_ _ | with_reducible refine Below.drew ?_ | with_reducible refine Below.alloc ?_ ?_ _ | with_reducible refine Below.setCell ?_ ?_ _ | with_reducible refine Below.trans ?_ (Below.mono (by with_reducible assumption) ?_) | (simp; done) | (simp; omega) | omega))) (ofPred _)).mono ?_; rintro e w1 ⟨rfl, hb1⟩; rw [Hany.out]; have hr1 : w1.heap[w.heap.size]? = some (.cells #[.slice none 0 0] 24 (0, 0)) := (hb1.block _ (by simp)).trans (heap_alloc_new w _); have Hr1 := Lib.hid hr1; have hs1 : w.heap.size < w1.heap.size := (by have := hb1.size; simp at this; omega); have Hb1 : Hid (Below w.heap.size w w1) := Lib.hid (show Below w.heap.size w w1 from (by have hbq := hb1; exact (by repeat' (first | with_reducible exact Below.refl _ _ | with_reducible assumption | with_reducible refine below_drewN ?_ _ | with_reducible refine Below.drew ?_ | with_reducible refine Below.alloc ?_ ?_ _ | with_reducible refine Below.setCell ?_ ?_ _ | with_reducible refine Below.trans ?_ (Below.mono (by with_reducible assumption) ?_) | with_reducible refine below_only ?_ (by with_reducible assumption) ?_ ?_ | (simp; done) | (simp; omega) | omega)))); clear hb1 hr1)
          | (go_at_call 23; refine (canonical_any A n c l _ (HA.out.below (Hb1.out.trans (Below.mono (by repeat' (first | with_reducible exact Below.refl _ _ | with_reducible refine below_drewN ?_ _ | with_reducible refine Below.drew ?_ | with_reducible refine Below.alloc ?_ ?_ _ | with_reducible refine Below.setCell ?_ ?_ _ | with_reducible refine Below.trans ?_ (Below.mono (by with_reducible assumption) ?_) | (simp; done) | (simp; omega) | omega)) (Nat.le_of_lt hs1)))) (by omega) Hl.out).mono ?_; rintro e w2 ⟨v2, rfl, hown2, hb2⟩; rw [Hcl.out] at hown2; obtain ⟨C, cc, rfl, hC⟩ := SlR.of_own hown2; have Hown2 := Lib.hid hown2; have Hb2 := Lib.hid hb2; clear hown2 hb2 hC)
          | (go_at_call 22; refine (limited_ok C cl.length cc _ hbg').mono ?_; rintro e w3 ⟨rfl, hb3⟩; have hr3 : w3.heap[w.heap.size]? = some (.cells #[.slice none 0 0] 24 (0, 0)) := (hb3.block _ (by have := Hb2.out.size; omega)).trans ((Hb2.out.block _ hs1).trans Hr1.out); have cr3 := cell_of_row w3 w.heap.size 0 _ _ _ hr3; have fr3 := frozen_of_row w3 w.heap.size 0 _ _ hr3; have csame : (w3.setCell ⟨w.heap.size, 0, none⟩ (.slice C cl.length cc)).cell? ⟨w.heap.size, 0, none⟩ = some (.slice C cl.length cc) := (by rw [cell_of_row _ w.heap.size 0 _ _ _ (heap_setCell_same w3 w.heap.size 0 _ _ _ hr3)]; simp); have Hown3 := Lib.hid (ownsRow_below Hown2.out hb3); have Hb3 := Lib.hid hb3; clear hb3 hr3)
          | fail)
        refine bodyPost_ret (v := .tuple #[.agg #[.slice C cl.length cc], .int .i64 0]) (by simp [results, Tryz.results7, go_sem, *]) rfl ?_
        have hlow := own_base Hown3.out
        refine ⟨_, rfl, ?_, (Hb1.out.trans ((Hb2.out.trans (Hb3.out.mono Hb2.out.size)).mono (Nat.le_of_lt hs1))).setCell (Nat.le_refl _) _⟩
        exact own_other (own_rebase Hown3.out (Nat.le_of_lt hs1)) (only_setCell (g := w.heap.size) (World.grownBy.refl _ _) (.inl rfl) _) (fun k hk e => by injection e with e; have := hlow k hk; omega)
end Go.Proofs.YtmkopmcjilaedaaGreat
