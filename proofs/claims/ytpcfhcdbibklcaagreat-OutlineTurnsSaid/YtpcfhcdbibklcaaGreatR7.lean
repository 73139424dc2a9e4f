/- Contracts: canonical, Of, Valid (regions). -/
import Derived.Test.YtpcfhcdbibklcaaGreatR6
import Derived.Test.YtpcfhcdbibklcaaGreatR1
import Derived.Test.YtpcfhcdbibklcaaGreatR2
import Derived.Test.YtpcfhcdbibklcaaGreatR3
import Derived.Test.YtpcfhcdbibklcaaGreatGs
namespace Go.Proofs.YtpcfhcdbibklcaaGreat
open Go.RowKit
set_option linter.unusedVariables false
set_option linter.unusedSimpArgs false

set_option maxHeartbeats 400000 in
theorem canonRow_any (g : Nat) (A : Option Addr) (n c : Nat) (l : List R4) (y : Int) (w : World) (hg : w.cell? ⟨g, 0, none⟩ = some (.slice A n c)) (hA : SlR w A n c l) (hn1 : n ≤ 100000) (hl : ∀ q ∈ l, q.l < q.r) :
    Calls Tryz.prog 90 #[.int .i64 y, .pointer (some ⟨g, 0, none⟩)] w fun e w' => ∃ v, e = .returned v ∧ w'.ownsRow w.heap.size 111 2 v (rowP l y).length (sCells (rowP l y)) ∧ Below w.heap.size w w' := by
  have HA := Lib.hid hA
  have Hl := Lib.hid hl
  clear hA hl
  go_enter Tryz.func90, Tryz.ntmps90
  go_wp2_with (first | (go_at_call 71; refine (row_any A n c l y _ (HA.out.below (by repeat' (first | with_reducible exact Below.refl _ _ | with_reducible refine below_drewN ?_ _ | with_reducible refine Below.drew ?_ | with_reducible refine Below.alloc ?_ ?_ _ | with_reducible refine Below.setCell ?_ ?_ _ | with_reducible refine Below.trans ?_ (Below.mono (by with_reducible assumption) ?_) | (simp; done) | (simp; omega) | omega))) hn1 Hl.out).mono ?_; rintro e w1 ⟨v1, rfl, hown1, hb1⟩; have Hown1 := Lib.hid hown1; have Hb1 := Lib.hid hb1; clear hown1 hb1) | fail)
  go_ret
  exact ⟨v1, rfl, Hown1.out, Hb1.out⟩

set_option maxHeartbeats 1000000 in
theorem canonical_any (A : Option Addr) (n c : Nat) (l : List R4) (w : World) (hA : SlR w A n c l) (hn1 : n ≤ 1500) (hl : ∀ q ∈ l, q.l < q.r) :
    Calls Tryz.prog 68 #[.slice A n c] w fun e w' => ∃ v, e = .returned v ∧ w'.ownsRow w.heap.size 58 4 v (canonP l).length (rCells (canonP l)) ∧ Below w.heap.size w w' := by
  have hn := hA.len
  have HA := Lib.hid hA
  have Hl := Lib.hid hl
  have Hcl : Hid ((cutsP l).length ≤ 2 * n) := Lib.hid (by have h1 := (asc_all (yEdges l)).2.2; rw [yEdges_len] at h1; unfold cutsP; omega)
  have Hflat : Hid (cutsP [l].flatten = cutsP l) := Lib.hid (by simp)
  have Hcan : Hid (buildP (rowP l) (cutsP l) = canonP l) := Lib.hid rfl
  have Hrl := Lib.hid (fun y => rowP_len l y)
  have eg : ∀ args w, (callFunc 90 args).run Tryz.prog w = .ok (.enter 90 args) w := enters_of Tryz.func90 (by kernel_rfl) rfl
  have Eg := Lib.hid eg
  clear hA hl eg
  go_enter Tryz.func68, Tryz.ntmps68
  go_wp2_with (first
    | (go_at_call 69
       refine (cuts_any (some ⟨w.heap.size + 1, 0, none⟩) 1 1 [l] _ rfl (by omega) (fun i hi => ⟨w.heap.size + 1, 0, A, n, c, rfl, by simp, by obtain rfl : i = 0 := (by simpa using hi); exact cell_of_row _ (w.heap.size + 1) 0 _ _ _ (heap_alloc2_new w _ _), by obtain rfl : i = 0 := (by simpa using hi); exact HA.out.below (by repeat' (first | with_reducible exact Below.refl _ _ | with_reducible refine below_drewN ?_ _ | with_reducible refine Below.drew ?_ | with_reducible refine Below.alloc ?_ ?_ _ | with_reducible refine Below.setCell ?_ ?_ _ | with_reducible refine Below.trans ?_ (Below.mono (by with_reducible assumption) ?_) | (simp; done) | (simp; omega) | omega))⟩) (by simp; omega)).mono ?_
       rintro e w1 ⟨v1, rfl, hown1, hb1⟩
       rw [Hflat.out] at hown1
       obtain ⟨C, cc, rfl, hC⟩ := SlI.of_own hown1
       have HC := Lib.hid hC
       have Hb1 : Hid (Below w.heap.size w w1) := Lib.hid (show Below w.heap.size w w1 from (by have hbq := hb1; exact (by repeat' (first | with_reducible exact Below.refl _ _ | with_reducible assumption | with_reducible refine below_drewN ?_ _ | with_reducible refine Below.drew ?_ | with_reducible refine Below.alloc ?_ ?_ _ | with_reducible refine Below.setCell ?_ ?_ _ | with_reducible refine Below.trans ?_ (Below.mono (by with_reducible assumption) ?_) | with_reducible refine below_only ?_ (by with_reducible assumption) ?_ ?_ | (simp; done) | (simp; omega) | omega))))
       have hs1 : w.heap.size < w1.heap.size := (by have := hb1.size; simp at this; omega)
       have cg1 : w1.cell? ⟨w.heap.size, 0, none⟩ = some (.slice A n c) := (hb1.cell (p := ⟨w.heap.size, 0, none⟩) (by simp; omega)).trans (cell_of_row _ w.heap.size 0 _ _ _ ((Below.heap_alloc _ _ _ (by simp)).trans (heap_alloc_new w _)))
       clear hown1 hb1 hC)
    | (go_at_call 53
       refine (build_any 90 #[.pointer (some ⟨w.heap.size, 0, none⟩)] (rowP l) n C (cutsP l).length cc (cutsP l) w1 HC.out (by have := Hcl.out; omega) (fun y => by have := Hrl.out y; omega) (by omega) (by have h1 := Nat.mul_le_mul_right n Hcl.out; have h2 : n * n ≤ 1500 * 1500 := Nat.mul_le_mul hn1 hn1; rw [Nat.mul_assoc] at h1; omega) Eg.out (fun W y hW => canonRow_any w.heap.size A n c l y W ((hW.cell (p := ⟨w.heap.size, 0, none⟩) hs1).trans cg1) (HA.out.below (Hb1.out.trans (hW.mono (Nat.le_of_lt hs1)))) (by omega) Hl.out)).mono ?_
       rintro e w2 ⟨v2, rfl, hown2, hb2⟩
       rw [Hcan.out] at hown2
       have Hown2 := Lib.hid hown2
       have Hb2 := Lib.hid hb2
       clear hown2 hb2)
    | fail)
  go_ret
  exact ⟨v2, rfl, own_rebase Hown2.out (Nat.le_of_lt hs1), Hb1.out.trans (Hb2.out.mono (Nat.le_of_lt hs1))⟩

set_option maxHeartbeats 400000 in
theorem validPred (w : World) : PredBelow Tryz.prog 65 #[] (fun q : R4 => .agg (R4.cells q).toArray) (fun q => !q.ok) w := by
  intro W q hb
  refine Calls.mono (show Calls Tryz.prog 65 #[.agg #[.int .i64 q.l, .int .i64 q.b, .int .i64 q.r, .int .i64 q.t]] W fun e w' => e = .returned (.bool (!q.ok)) ∧ Below W.heap.size W w' from ?_) ?_
  · have Hp := Lib.hid (fun W => properP_any q W)
    generalize q.ok = x at *
    go_enter Tryz.func65, Tryz.ntmps65
    go_wp2_with (first | (go_at_call 66; refine (Hp.out _).mono ?_; rintro e w1 ⟨rfl, hb1⟩) | fail)
    go_ret
    exact ⟨rfl, (by repeat' (first | with_reducible exact Below.refl _ _ | with_reducible assumption | with_reducible refine below_drewN ?_ _ | with_reducible refine Below.drew ?_ | with_reducible refine Below.alloc ?_ ?_ _ | with_reducible refine Below.setCell ?_ ?_ _ | with_reducible refine Below.trans ?_ (Below.mono (by with_reducible assumption) ?_) | with_reducible refine below_only ?_ (by with_reducible assumption) ?_ ?_ | (simp; done) | (simp; omega) | omega))⟩
  · rintro e w' ⟨rfl, h⟩
    exact ⟨rfl, hb.trans (h.mono hb.size)⟩

set_option maxHeartbeats 2000000 in
set_option maxRecDepth 100000 in
theorem valid_any (A : Option Addr) (n c : Nat) (l : List R4) (w : World) (hA : SlR w A n c l) :
    Calls Tryz.prog 32 #[.agg #[.slice A n c]] w fun e w' => e = .returned (.bool (validP l)) ∧ Below w.heap.size w w' := by
  have hn := hA.len
  have HA := Lib.hid hA
  clear hA
  have egv : ∀ args w, (callFunc 65 args).run Tryz.prog w = .ok (.enter 65 args) w := enters_of Tryz.func65 (by kernel_rfl) rfl
  have Egv := Lib.hid egv
  clear egv
  by_cases hbig : 120 < n
  · have hv : validP l = false := by unfold validP; rw [decide_eq_false (by omega)]; rfl
    have hb' : (120 : Int) < (n : Int) := by omega
    rw [hv]
    clear hv
    go_enter Tryz.func32, Tryz.ntmps32
    go_wp2
    go_ret
    exact ⟨rfl, (by repeat' (first | with_reducible exact Below.refl _ _ | with_reducible refine below_drewN ?_ _ | with_reducible refine Below.drew ?_ | with_reducible refine Below.alloc ?_ ?_ _ | with_reducible refine Below.setCell ?_ ?_ _ | with_reducible refine Below.trans ?_ (Below.mono (by with_reducible assumption) ?_) | (simp; done) | (simp; omega) | omega))⟩
  · have hb' : ¬ (120 : Int) < (n : Int) := by omega
    have hv : validP l = (l.all R4.ok && decide (canonP l = l)) := by unfold validP; rw [decide_eq_true (by omega)]; rfl
    rw [hv]
    clear hv
    have Hany := Lib.hid (any_not_all l R4.ok)
    cases hall : l.all R4.ok with
    | false =>
      rw [hall] at Hany
      clear hall
      go_enter Tryz.func32, Tryz.ntmps32
      go_wp2_with (first | (go_at_call 64; refine (containsR_any (fun q => !q.ok) 65 #[] Egv.out A n c l _ (HA.out.below (by repeat' (first | with_reducible exact Below.refl _ _ | with_reducible refine below_drewN ?_ _ | with_reducible refine Below.drew ?_ | with_reducible refine Below.alloc ?_ ?_ _ | with_reducible refine Below.setCell ?_ ?_ _ | with_reducible refine Below.trans ?_ (Below.mono (by with_reducible assumption) ?_) | (simp; done) | (simp; omega) | omega))) (validPred _)).mono ?_; rintro e w1 ⟨rfl, hb1⟩; rw [Hany.out]) | fail)
      go_ret
      exact ⟨rfl, (by repeat' (first | with_reducible exact Below.refl _ _ | with_reducible assumption | with_reducible refine below_drewN ?_ _ | with_reducible refine Below.drew ?_ | with_reducible refine Below.alloc ?_ ?_ _ | with_reducible refine Below.setCell ?_ ?_ _ | with_reducible refine Below.trans ?_ (Below.mono (by with_reducible assumption) ?_) | with_reducible refine below_only ?_ (by with_reducible assumption) ?_ ?_ | (simp; done) | (simp; omega) | omega))⟩
    | true =>
      have Hl := Lib.hid (ok_pos hall)
      rw [hall] at Hany
      clear hall
      obtain ⟨cl, hcl⟩ : ∃ cl, canonP l = cl := ⟨_, rfl⟩
      have Hcl := Lib.hid hcl
      rw [hcl]
      obtain ⟨rs, hrs⟩ : ∃ rs, decide (cl = l) = rs := ⟨_, rfl⟩
      have Hrs := Lib.hid hrs
      rw [hrs]
      clear hcl hrs
      go_enter Tryz.func32, Tryz.ntmps32
      go_wp2_with (first | (go_at_call 64; refine (containsR_any (fun q => !q.ok) 65 #[] Egv.out A n c l _ (HA.out.below (by repeat' (first | with_reducible exact Below.refl _ _ | with_reducible refine below_drewN ?_ _ | with_reducible refine Below.drew ?_ | with_reducible refine Below.alloc ?_ ?_ _ | with_reducible refine Below.setCell ?_ ?_ _ | with_reducible refine Below.trans ?_ (Below.mono (by with_reducible assumption) ?_) | (simp; done) | (simp; omega) | omega))) (validPred _)).mono ?_; rintro e w1 ⟨rfl, hb1⟩; rw [Hany.out]; have Hb1 : Hid (Below w.heap.size w w1) := Lib.hid (show Below w.heap.size w w1 from (by have hbq := hb1; exact (by repeat' (first | with_reducible exact Below.refl _ _ | with_reducible assumption | with_reducible refine below_drewN ?_ _ | with_reducible refine Below.drew ?_ | with_reducible refine Below.alloc ?_ ?_ _ | with_reducible refine Below.setCell ?_ ?_ _ | with_reducible refine Below.trans ?_ (Below.mono (by with_reducible assumption) ?_) | with_reducible refine below_only ?_ (by with_reducible assumption) ?_ ?_ | (simp; done) | (simp; omega) | omega)))); have hs1 : w.heap.size < w1.heap.size := (by have := hb1.size; simp at this; omega); have cg1 : w1.cell? ⟨w.heap.size, 0, none⟩ = some (.slice A n c) := (hb1.cell (p := ⟨w.heap.size, 0, none⟩) (by simp)).trans (cell_of_row _ w.heap.size 0 _ _ _ (heap_alloc_new w _)); clear hb1) | fail)
      go_region_held3 (fun w' => w'.cell? ⟨w.heap.size, 0, none⟩ = some (.slice A n c))
        (first | go_keep | exact (Hb2.out.cell (p := ⟨w.heap.size, 0, none⟩) hs1).trans cg1)
        (first
          | (go_at_call 68
             refine (canonical_any A n c l _ (HA.out.below (Hb1.out.trans (Below.mono (by repeat' (first | with_reducible exact Below.refl _ _ | with_reducible refine below_drewN ?_ _ | with_reducible refine Below.drew ?_ | with_reducible refine Below.alloc ?_ ?_ _ | with_reducible refine Below.setCell ?_ ?_ _ | with_reducible refine Below.trans ?_ (Below.mono (by with_reducible assumption) ?_) | (simp; done) | (simp; omega) | omega)) (Nat.le_of_lt hs1)))) (by omega) Hl.out).mono ?_
             rintro e w2 ⟨v2, rfl, hown2, hb2⟩
             rw [Hcl.out] at hown2
             obtain ⟨C, cc, rfl, hC⟩ := SlR.of_own hown2
             have HC := Lib.hid hC
             have Hb2 : Hid (Below w1.heap.size w1 w2) := Lib.hid (show Below w1.heap.size w1 w2 from (by have hbq := hb2; exact (by repeat' (first | with_reducible exact Below.refl _ _ | with_reducible assumption | with_reducible refine below_drewN ?_ _ | with_reducible refine Below.drew ?_ | with_reducible refine Below.alloc ?_ ?_ _ | with_reducible refine Below.setCell ?_ ?_ _ | with_reducible refine Below.trans ?_ (Below.mono (by with_reducible assumption) ?_) | with_reducible refine below_only ?_ (by with_reducible assumption) ?_ ?_ | (simp; done) | (simp; omega) | omega))))
             have cg2 := (Hb2.out.cell (p := ⟨w.heap.size, 0, none⟩) hs1).trans cg1
             clear hown2 hb2 hC)
          | (go_at_call 67
             refine (equalR_any C A cl.length cc n c cl l _ (HC.out.below (by repeat' (first | with_reducible exact Below.refl _ _ | with_reducible refine below_drewN ?_ _ | with_reducible refine Below.drew ?_ | with_reducible refine Below.alloc ?_ ?_ _ | with_reducible refine Below.setCell ?_ ?_ _ | with_reducible refine Below.trans ?_ (Below.mono (by with_reducible assumption) ?_) | (simp; done) | (simp; omega) | omega))) (HA.out.below (Hb1.out.trans ((Hb2.out.trans (Below.mono (by repeat' (first | with_reducible exact Below.refl _ _ | with_reducible refine below_drewN ?_ _ | with_reducible refine Below.drew ?_ | with_reducible refine Below.alloc ?_ ?_ _ | with_reducible refine Below.setCell ?_ ?_ _ | with_reducible refine Below.trans ?_ (Below.mono (by with_reducible assumption) ?_) | (simp; done) | (simp; omega) | omega)) Hb2.out.size)).mono (Nat.le_of_lt hs1))))).mono ?_
             rintro e w3 ⟨rfl, hb3⟩
             rw [Hrs.out]
             have Hb3 : Hid (Below w2.heap.size w2 w3) := Lib.hid (show Below w2.heap.size w2 w3 from (by have hbq := hb3; exact (by repeat' (first | with_reducible exact Below.refl _ _ | with_reducible assumption | with_reducible refine below_drewN ?_ _ | with_reducible refine Below.drew ?_ | with_reducible refine Below.alloc ?_ ?_ _ | with_reducible refine Below.setCell ?_ ?_ _ | with_reducible refine Below.trans ?_ (Below.mono (by with_reducible assumption) ?_) | with_reducible refine below_only ?_ (by with_reducible assumption) ?_ ?_ | (simp; done) | (simp; omega) | omega))))
             have cg3 := (Hb3.out.cell (p := ⟨w.heap.size, 0, none⟩) (Nat.lt_of_lt_of_le hs1 Hb2.out.size)).trans cg2
             clear hb3)
          | fail)
      all_goals go_wp2
      all_goals go_ret
      all_goals exact ⟨rfl, Hb1.out.trans ((Hb2.out.trans (Hb3.out.mono Hb2.out.size)).mono (Nat.le_of_lt hs1))⟩

end Go.Proofs.YtpcfhcdbibklcaaGreat
