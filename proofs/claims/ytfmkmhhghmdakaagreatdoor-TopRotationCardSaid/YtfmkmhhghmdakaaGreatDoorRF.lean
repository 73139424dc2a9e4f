import Derived.Test.YtfmkmhhghmdakaaGreatDoorRC
import Derived.Test.YtfmkmhhghmdakaaGreatDoorRD
import Derived.Test.YtfmkmhhghmdakaaGreatDoorRE
namespace Go.Proofs.YtfmkmhhghmdakaaGreatDoor
open Go.RowKit
set_option linter.unusedVariables false
set_option linter.unusedSimpArgs false
set_option maxHeartbeats 64000000
set_option maxRecDepth 100000
theorem canonRow_any (g : Nat) (A : Option Addr) (n c : Nat) (l : List R4) (y : Int) (w : World) (hg : w.cell? ⟨g, 0, none⟩ = some (.slice A n c)) (hA : SlR w A n c l) (hn1 : n ≤ 100000) (hl : ∀ q ∈ l, q.l < q.r) :
    Calls Tryz.prog 218 #[.int .i64 y, .pointer (some ⟨g, 0, none⟩)] w fun e w' => ∃ v, e = .returned v ∧ w'.ownsRow w.heap.size 256 2 v (rowP l y).length (sCells (rowP l y)) ∧ Below w.heap.size w w' := by
  have HA := Lib.hid hA
  have Hl := Lib.hid hl
  clear hA hl
  go_enter Tryz.func218, Tryz.ntmps218
  go_wp2_with (first | (go_at_call 140; refine (row_any A n c l y _ (HA.out.below gBel) hn1 Hl.out).mono ?_; rintro e w1 ⟨v1, rfl, hown1, hb1⟩; have Hown1 := Lib.hid hown1; have Hb1 := Lib.hid hb1; clear hown1 hb1) | fail)
  go_ret
  exact ⟨v1, rfl, Hown1.out, Hb1.out⟩
theorem canonical_any (A : Option Addr) (n c : Nat) (l : List R4) (w : World) (hA : SlR w A n c l) (hn1 : n ≤ 1500) (hl : ∀ q ∈ l, q.l < q.r) :
    Calls Tryz.prog 134 #[.slice A n c] w fun e w' => ∃ v, e = .returned v ∧ w'.ownsRow w.heap.size 68 4 v (canonP l).length (rCells (canonP l)) ∧ Below w.heap.size w w' := by
  have hn := hA.len
  have HA := Lib.hid hA
  have Hl := Lib.hid hl
  have Hcl : Hid ((cutsP l).length ≤ 2 * n) := Lib.hid (by have h1 := (asc_all (yEdges l)).2.2; rw [yEdges_len] at h1; unfold cutsP; omega)
  have Hflat : Hid (cutsP [l].flatten = cutsP l) := Lib.hid (by simp)
  have Hcan : Hid (buildP (rowP l) (cutsP l) = canonP l) := Lib.hid rfl
  have Hrl := Lib.hid (fun y => rowP_len l y)
  have eg : ∀ args w, (callFunc 218 args).run Tryz.prog w = .ok (.enter 218 args) w := enters_of Tryz.func218 (by kernel_rfl) rfl
  have Eg := Lib.hid eg
  clear hA hl eg
  go_enter Tryz.func134, Tryz.ntmps134
  go_wp2_with (first
    | (go_at_call 137
       refine (cuts_any (some ⟨w.heap.size + 1, 0, none⟩) 1 1 [l] _ rfl (by omega) (fun i hi => ⟨w.heap.size + 1, 0, A, n, c, rfl, by simp, by obtain rfl : i = 0 := (by simpa using hi); exact cell_of_row _ (w.heap.size + 1) 0 _ _ _ (heap_alloc2_new w _ _), by obtain rfl : i = 0 := (by simpa using hi); exact HA.out.below gBel⟩) (by simp; omega)).mono ?_
       rintro e w1 ⟨v1, rfl, hown1, hb1⟩
       rw [Hflat.out] at hown1
       obtain ⟨C, cc, rfl, hC⟩ := SlI.of_own hown1
       have HC := Lib.hid hC
       have Hb1 : Hid (Below w.heap.size w w1) := Lib.hid (show Below w.heap.size w w1 from (by have hbq := hb1; exact gBelo))
       have hs1 : w.heap.size < w1.heap.size := (by have := hb1.size; simp at this; omega)
       have cg1 : w1.cell? ⟨w.heap.size, 0, none⟩ = some (.slice A n c) := (hb1.cell (p := ⟨w.heap.size, 0, none⟩) (by simp; omega)).trans (cell_of_row _ w.heap.size 0 _ _ _ ((Below.heap_alloc _ _ _ (by simp)).trans (heap_alloc_new w _)))
       clear hown1 hb1 hC)
    | (go_at_call 136
       refine (build_any 218 #[.pointer (some ⟨w.heap.size, 0, none⟩)] (rowP l) n C (cutsP l).length cc (cutsP l) w1 HC.out (by have := Hcl.out; omega) (fun y => by have := Hrl.out y; omega) (by omega) (by have h1 := Nat.mul_le_mul_right n Hcl.out; have h2 : n * n ≤ 1500 * 1500 := Nat.mul_le_mul hn1 hn1; rw [Nat.mul_assoc] at h1; omega) Eg.out (fun W y hW => canonRow_any w.heap.size A n c l y W ((hW.cell (p := ⟨w.heap.size, 0, none⟩) hs1).trans cg1) (HA.out.below (Hb1.out.trans (hW.mono (Nat.le_of_lt hs1)))) (by omega) Hl.out)).mono ?_
       rintro e w2 ⟨v2, rfl, hown2, hb2⟩
       rw [Hcan.out] at hown2
       have Hown2 := Lib.hid hown2
       have Hb2 := Lib.hid hb2
       clear hown2 hb2)
    | fail)
  go_ret
  exact ⟨v2, rfl, own_rebase Hown2.out (Nat.le_of_lt hs1), Hb1.out.trans (Hb2.out.mono (Nat.le_of_lt hs1))⟩
theorem validPred (w : World) : PredBelow Tryz.prog 132 #[] (fun q : R4 => .agg (R4.cells q).toArray) (fun q => !q.ok) w := by
  intro W q hb
  refine Calls.mono (show Calls Tryz.prog 132 #[.agg #[.int .i64 q.l, .int .i64 q.b, .int .i64 q.r, .int .i64 q.t]] W fun e w' => e = .returned (.bool (!q.ok)) ∧ Below W.heap.size W w' from ?_) ?_
  · have Hp := Lib.hid (fun W => properP_any q W)
    generalize q.ok = x at *
    go_enter Tryz.func132, Tryz.ntmps132
    go_wp2_with (first | (go_at_call 133; refine (Hp.out _).mono ?_; rintro e w1 ⟨rfl, hb1⟩) | fail)
    go_ret
    exact ⟨rfl, gBelo⟩
  · rintro e w' ⟨rfl, h⟩
    exact ⟨rfl, hb.trans (h.mono hb.size)⟩
theorem valid_any (A : Option Addr) (n c : Nat) (l : List R4) (w : World) (hA : SlR w A n c l) :
    Calls Tryz.prog 48 #[.agg #[.slice A n c]] w fun e w' => e = .returned (.bool (validP l)) ∧ Below w.heap.size w w' := by
  have hn := hA.len
  have HA := Lib.hid hA
  clear hA
  have egv : ∀ args w, (callFunc 132 args).run Tryz.prog w = .ok (.enter 132 args) w := enters_of Tryz.func132 (by kernel_rfl) rfl
  have Egv := Lib.hid egv
  clear egv
  by_cases hbig : 120 < n
  · have hv : validP l = false := by unfold validP; rw [decide_eq_false (by omega)]; rfl
    have hb' : (120 : Int) < (n : Int) := by omega
    rw [hv]
    clear hv
    go_enter Tryz.func48, Tryz.ntmps48
    go_wp2
    go_ret
    exact ⟨rfl, gBel⟩
  · have hb' : ¬ (120 : Int) < (n : Int) := by omega
    have hv : validP l = (l.all R4.ok && decide (canonP l = l)) := by unfold validP; rw [decide_eq_true (by omega)]; rfl
    rw [hv]
    clear hv
    have Hany := Lib.hid (any_not_all l R4.ok)
    cases hall : l.all R4.ok with
    | false =>
      rw [hall] at Hany
      clear hall
      go_enter Tryz.func48, Tryz.ntmps48
      go_wp2_with (first | (go_at_call 89; refine (containsR_any (fun q => !q.ok) 132 #[] Egv.out A n c l _ (HA.out.below gBel) (validPred _)).mono ?_; rintro e w1 ⟨rfl, hb1⟩; rw [Hany.out]) | fail)
      go_ret
      exact ⟨rfl, gBelo⟩
    | true =>
      have Hl := Lib.hid (ok_pos hall)
      rw [hall] at Hany
      clear hall
      obtain ⟨cl, hcl⟩ : ∃ cl, canonP l = cl := ⟨_, rfl⟩
      have Hcl := Lib.hid hcl
      rw [hcl]
      obtain ⟨rs, hrs⟩ : ∃ rs, decide (cl = l) = rs := ⟨_, rfl⟩
      have Hrs := Lib.hid hrs
      rw [hrs]
      clear hcl hrs
      go_enter Tryz.func48, Tryz.ntmps48
      go_wp2_with (first | (go_at_call 89; refine (containsR_any (fun q => !q.ok) 132 #[] Egv.out A n c l _ (HA.out.below gBel) (validPred _)).mono ?_; rintro e w1 ⟨rfl, hb1⟩; rw [Hany.out]; have Hb1 : Hid (Below w.heap.size w w1) := Lib.hid (show Below w.heap.size w w1 from (by have hbq := hb1; exact gBelo)); have hs1 : w.heap.size < w1.heap.size := (by have := hb1.size; simp at this; omega); have cg1 : w1.cell? ⟨w.heap.size, 0, none⟩ = some (.slice A n c) := (hb1.cell (p := ⟨w.heap.size, 0, none⟩) (by simp)).trans (cell_of_row _ w.heap.size 0 _ _ _ (heap_alloc_new w _)); clear hb1) | fail)
      go_region_held3 (fun w' => w'.cell? ⟨w.heap.size, 0, none⟩ = some (.slice A n c))
        (first | go_keep | exact (Hb2.out.cell (p := ⟨w.heap.size, 0, none⟩) hs1).trans cg1)
        (first
          | (go_at_call 134
             refine (canonical_any A n c l _ (HA.out.below (Hb1.out.trans (Below.mono gBel (Nat.le_of_lt hs1)))) (by omega) Hl.out).mono ?_
             rintro e w2 ⟨v2, rfl, hown2, hb2⟩
             rw [Hcl.out] at hown2
             obtain ⟨C, cc, rfl, hC⟩ := SlR.of_own hown2
             have HC := Lib.hid hC
             have Hb2 : Hid (Below w1.heap.size w1 w2) := Lib.hid (show Below w1.heap.size w1 w2 from (by have hbq := hb2; exact gBelo))
             have cg2 := (Hb2.out.cell (p := ⟨w.heap.size, 0, none⟩) hs1).trans cg1
             clear hown2 hb2 hC)
          | (go_at_call 110
             refine (equalR_any C A cl.length cc n c cl l _ (HC.out.below gBel) (HA.out.below (Hb1.out.trans ((Hb2.out.trans (Below.mono gBel Hb2.out.size)).mono (Nat.le_of_lt hs1))))).mono ?_
             rintro e w3 ⟨rfl, hb3⟩
             rw [Hrs.out]
             have Hb3 : Hid (Below w2.heap.size w2 w3) := Lib.hid (show Below w2.heap.size w2 w3 from (by have hbq := hb3; exact gBelo))
             have cg3 := (Hb3.out.cell (p := ⟨w.heap.size, 0, none⟩) (Nat.lt_of_lt_of_le hs1 Hb2.out.size)).trans cg2
             clear hb3)
          | fail)
      all_goals go_wp2
      all_goals go_ret
      all_goals exact ⟨rfl, Hb1.out.trans ((Hb2.out.trans (Hb3.out.mono Hb2.out.size)).mono (Nat.le_of_lt hs1))⟩
theorem of_any (A : Option Addr) (n c : Nat) (l : List R4) (w : World) (hA : SlR w A n c l) :
    Calls Tryz.prog 59 #[.slice A n c] w (RegPost w (ofP l)) := by
  have hn := hA.len
  have HA := Lib.hid hA
  clear hA
  have egv : ∀ args w, (callFunc 143 args).run Tryz.prog w = .ok (.enter 143 args) w := enters_of Tryz.func143 (by kernel_rfl) rfl
  have Egv := Lib.hid egv
  clear egv
  by_cases hbig : 120 < n
  · have hb' : (120 : Int) < (n : Int) := by omega
    have e0 : ofP l = ([], 1) := by unfold ofP; rw [if_pos (by omega)]
    rw [e0]
    clear e0
    go_enter Tryz.func59, Tryz.ntmps59
    go_wp2
    refine bodyPost_ret (v := .tuple #[.agg #[.slice none 0 0], .int .i64 1]) (by simp [results, Tryz.results59, go_sem, *]) rfl ?_
    exact ⟨_, rfl, World.ownsRow_nil _ _ _ _, gBel⟩
  · have hb' : ¬ (120 : Int) < (n : Int) := by omega
    have Hany := Lib.hid (any_not_all l R4.ok)
    cases hall : l.all R4.ok with
    | false =>
      have e0 : ofP l = ([], 2) := by unfold ofP; rw [if_neg (by omega), hall]; rfl
      rw [e0]
      rw [hall] at Hany
      clear hall e0
      go_enter Tryz.func59, Tryz.ntmps59
      go_wp2_with (first | (go_at_call 89; refine (containsR_any (fun q => !q.ok) 143 #[] Egv.out A n c l _ (HA.out.below gBel) (ofPred _)).mono ?_; rintro e w1 ⟨rfl, hb1⟩; rw [Hany.out]; have hr1 : w1.heap[w.heap.size]? = some (.cells #[.slice none 0 0] 33 (0, 0)) := (hb1.block _ (by simp)).trans (heap_alloc_new w _); have cr1 := cell_of_row w1 w.heap.size 0 _ _ _ hr1; have fr1 := frozen_of_row w1 w.heap.size 0 _ _ hr1; have csame : (w1.setCell ⟨w.heap.size, 0, none⟩ (.slice none 0 0)).cell? ⟨w.heap.size, 0, none⟩ = some (.slice none 0 0) := (by rw [cell_of_row _ w.heap.size 0 _ _ _ (heap_setCell_same w1 w.heap.size 0 _ _ _ hr1)]; simp); have Hb1 : Hid (Below w.heap.size w w1) := Lib.hid (show Below w.heap.size w w1 from (by have hbq := hb1; exact gBelo)); clear hb1 hr1) | fail)
      refine bodyPost_ret (v := .tuple #[.agg #[.slice none 0 0], .int .i64 2]) (by simp [results, Tryz.results59, go_sem, *]) rfl ?_
      exact ⟨_, rfl, World.ownsRow_nil _ _ _ _, Hb1.out.setCell (Nat.le_refl _) _⟩
    | true =>
      have Hl := Lib.hid (ok_pos hall)
      have e0 : ofP l = if 120 < (canonP l).length then ([], 1) else (canonP l, 0) := by unfold ofP; rw [if_neg (by omega), if_pos hall]
      rw [e0]
      rw [hall] at Hany
      clear hall e0
      obtain ⟨cl, hcl⟩ : ∃ cl, canonP l = cl := ⟨_, rfl⟩
      have Hcl := Lib.hid hcl
      rw [hcl]
      clear hcl
      by_cases hbg : 120 < cl.length
      · rw [if_pos hbg]
        go_enter Tryz.func59, Tryz.ntmps59
        go_wp2_with (first
          | (go_at_call 89; refine (containsR_any (fun q => !q.ok) 143 #[] Egv.out A n c l _ (HA.out.below gBel) (ofPred _)).mono ?_; rintro e w1 ⟨rfl, hb1⟩; rw [Hany.out]; have hr1 : w1.heap[w.heap.size]? = some (.cells #[.slice none 0 0] 33 (0, 0)) := (hb1.block _ (by simp)).trans (heap_alloc_new w _); have Hr1 := Lib.hid hr1; have hs1 : w.heap.size < w1.heap.size := (by have := hb1.size; simp at this; omega); have Hb1 : Hid (Below w.heap.size w w1) := Lib.hid (show Below w.heap.size w w1 from (by have hbq := hb1; exact gBelo)); clear hb1 hr1)
          | (go_at_call 134; refine (canonical_any A n c l _ (HA.out.below (Hb1.out.trans (Below.mono gBel (Nat.le_of_lt hs1)))) (by omega) Hl.out).mono ?_; rintro e w2 ⟨v2, rfl, hown2, hb2⟩; rw [Hcl.out] at hown2; obtain ⟨C, cc, rfl, hC⟩ := SlR.of_own hown2; have Hb2 := Lib.hid hb2; clear hown2 hb2 hC)
          | (go_at_call 56; refine (limited_big C cl.length cc _ hbg).mono ?_; rintro e w3 ⟨rfl, hb3⟩; have hr3 : w3.heap[w.heap.size]? = some (.cells #[.slice none 0 0] 33 (0, 0)) := (hb3.block _ (by have := Hb2.out.size; omega)).trans ((Hb2.out.block _ hs1).trans Hr1.out); have cr3 := cell_of_row w3 w.heap.size 0 _ _ _ hr3; have fr3 := frozen_of_row w3 w.heap.size 0 _ _ hr3; have csame : (w3.setCell ⟨w.heap.size, 0, none⟩ (.slice none 0 0)).cell? ⟨w.heap.size, 0, none⟩ = some (.slice none 0 0) := (by rw [cell_of_row _ w.heap.size 0 _ _ _ (heap_setCell_same w3 w.heap.size 0 _ _ _ hr3)]; simp); have Hb3 := Lib.hid hb3; clear hb3 hr3)
          | fail)
        refine bodyPost_ret (v := .tuple #[.agg #[.slice none 0 0], .int .i64 1]) (by simp [results, Tryz.results59, go_sem, *]) rfl ?_
        exact ⟨_, rfl, World.ownsRow_nil _ _ _ _, (Hb1.out.trans ((Hb2.out.trans (Hb3.out.mono Hb2.out.size)).mono (Nat.le_of_lt hs1))).setCell (Nat.le_refl _) _⟩
      · rw [if_neg hbg]
        have hbg' : cl.length ≤ 120 := by omega
        go_enter Tryz.func59, Tryz.ntmps59
        go_wp2_with (first
          | (go_at_call 89; refine (containsR_any (fun q => !q.ok) 143 #[] Egv.out A n c l _ (HA.out.below gBel) (ofPred _)).mono ?_; rintro e w1 ⟨rfl, hb1⟩; rw [Hany.out]; have hr1 : w1.heap[w.heap.size]? = some (.cells #[.slice none 0 0] 33 (0, 0)) := (hb1.block _ (by simp)).trans (heap_alloc_new w _); have Hr1 := Lib.hid hr1; have hs1 : w.heap.size < w1.heap.size := (by have := hb1.size; simp at this; omega); have Hb1 : Hid (Below w.heap.size w w1) := Lib.hid (show Below w.heap.size w w1 from (by have hbq := hb1; exact gBelo)); clear hb1 hr1)
          | (go_at_call 134; refine (canonical_any A n c l _ (HA.out.below (Hb1.out.trans (Below.mono gBel (Nat.le_of_lt hs1)))) (by omega) Hl.out).mono ?_; rintro e w2 ⟨v2, rfl, hown2, hb2⟩; rw [Hcl.out] at hown2; obtain ⟨C, cc, rfl, hC⟩ := SlR.of_own hown2; have Hown2 := Lib.hid hown2; have Hb2 := Lib.hid hb2; clear hown2 hb2 hC)
          | (go_at_call 56; refine (limited_ok C cl.length cc _ hbg').mono ?_; rintro e w3 ⟨rfl, hb3⟩; have hr3 : w3.heap[w.heap.size]? = some (.cells #[.slice none 0 0] 33 (0, 0)) := (hb3.block _ (by have := Hb2.out.size; omega)).trans ((Hb2.out.block _ hs1).trans Hr1.out); have cr3 := cell_of_row w3 w.heap.size 0 _ _ _ hr3; have fr3 := frozen_of_row w3 w.heap.size 0 _ _ hr3; have csame : (w3.setCell ⟨w.heap.size, 0, none⟩ (.slice C cl.length cc)).cell? ⟨w.heap.size, 0, none⟩ = some (.slice C cl.length cc) := (by rw [cell_of_row _ w.heap.size 0 _ _ _ (heap_setCell_same w3 w.heap.size 0 _ _ _ hr3)]; simp); have Hown3 := Lib.hid (ownsRow_below Hown2.out hb3); have Hb3 := Lib.hid hb3; clear hb3 hr3)
          | fail)
        refine bodyPost_ret (v := .tuple #[.agg #[.slice C cl.length cc], .int .i64 0]) (by simp [results, Tryz.results59, go_sem, *]) rfl ?_
        have hlow := own_base Hown3.out
        refine ⟨_, rfl, ?_, (Hb1.out.trans ((Hb2.out.trans (Hb3.out.mono Hb2.out.size)).mono (Nat.le_of_lt hs1))).setCell (Nat.le_refl _) _⟩
        exact own_other (own_rebase Hown3.out (Nat.le_of_lt hs1)) (only_setCell (g := w.heap.size) (World.grownBy.refl _ _) (.inl rfl) _) (fun k hk e => by injection e with e; have := hlow k hk; omega)
def sizeP (l : List R4) : Int := l.foldl (fun s q => s + (q.r - q.l) * (q.t - q.b)) 0
theorem sizeP_succ (l : List R4) (k : Nat) (h : k < l.length) : sizeP (l.take (k + 1)) = sizeP (l.take k) + (l[k].r - l[k].l) * (l[k].t - l[k].b) := by
  unfold sizeP
  rw [List.take_succ_eq_append_getElem h, List.foldl_append]
  rfl
theorem area1_bd {q : R4} (h : q.ok = true) : 0 ≤ (q.r - q.l) * (q.t - q.b) ∧ (q.r - q.l) * (q.t - q.b) ≤ 268435456 := by
  have h1 := (R4.ok_iff q).1 h
  refine ⟨Int.mul_nonneg (by omega) (by omega), ?_⟩
  calc (q.r - q.l) * (q.t - q.b) ≤ 16384 * 16384 := Int.mul_le_mul (by omega) (by omega) (by omega) (by omega)
    _ = 268435456 := rfl
theorem size_any (A : Option Addr) (n c : Nat) (l : List R4) (w : World) (hA : SlR w A n c l) (hok : l.all R4.ok = true) (hn : n ≤ 120) :
    Calls Tryz.prog 49 #[.slice A n c] w fun e w' => e = .returned (.int .i64 (sizeP l)) ∧ Below w.heap.size w w' := by
  have hx := hA.len
  have HA := Lib.hid hA
  have Hok := Lib.hid hok
  clear hA hok
  go_enter Tryz.func49, Tryz.ntmps49
  go_upto_region 3 with fail
  go_loopw [3, 5, 8] (fun s _ i wr => ∃ k : Nat, k ≤ n ∧ i = .int .i64 (k : Int) ∧ s = .int .i64 (sizeP (l.take k)) ∧ Hid (0 ≤ sizeP (l.take k) ∧ sizeP (l.take k) ≤ 268435456 * k) ∧ Below w.heap.size w wr) (fun _ _ i _ => n - (intOf i).toNat)
  case atStart => exact ⟨0, Nat.zero_le _, rfl, rfl, Lib.hid ⟨Int.le_refl _, Int.le_refl _⟩, Below.refl _ _⟩
  case round =>
    obtain ⟨k, hk, rfl, rfl, Hbd, hbw⟩ := hrel
    by_cases hkn : k < n
    · have hkl : k < l.length := by omega
      obtain ⟨b, off, rfl, hb, c0, c1, c2, c3⟩ := (HA.out.below hbw).at k hkl
      have hq := List.all_eq_true.1 Hok.out _ (List.getElem_mem hkl)
      have Hnext := Lib.hid (sizeP_succ l k hkl)
      have hkn' : (k : Int) < (n : Int) := by omega
      generalize l[k] = q at *
      obtain ⟨s, hs⟩ : ∃ s, sizeP (l.take k) = s := ⟨_, rfl⟩
      rw [hs] at Hbd Hnext ⊢
      have h1 := (R4.ok_iff q).1 hq
      have h2 := area1_bd hq
      have h3 := Hbd.out
      obtain ⟨a1, ha1⟩ : ∃ a1, q.r - q.l = a1 := ⟨_, rfl⟩
      obtain ⟨a2, ha2⟩ : ∃ a2, q.t - q.b = a2 := ⟨_, rfl⟩
      rw [ha1, ha2] at Hnext h2
      have e1 : IntKind.i64.wrap (q.r - q.l) = a1 := by rw [ha1]; exact IntWalk.i64_in _ (by omega)
      have e2 : IntKind.i64.wrap (q.t - q.b) = a2 := by rw [ha2]; exact IntWalk.i64_in _ (by omega)
      obtain ⟨pr, hpr⟩ : ∃ pr, a1 * a2 = pr := ⟨_, rfl⟩
      rw [hpr] at Hnext h2
      have e3 : IntKind.i64.wrap (a1 * a2) = pr := by rw [hpr]; exact IntWalk.i64_in _ (by omega)
      have e4 : IntKind.i64.wrap (s + pr) = s + pr := IntWalk.i64_in _ (by omega)
      have Hbd2 : Hid (0 ≤ s + pr ∧ s + pr ≤ 268435456 * ((k + 1 : Nat) : Int)) := Lib.hid (by omega)
      have Hbw := Lib.hid hbw
      have hsw := hbw.size
      clear hbw hq h1 h2 h3 ha1 ha2 hpr hs
      go_wp2
      go_roundw
      case rel => exact ⟨k + 1, by omega, by go_num, by rw [Hnext.out], by rw [Hnext.out]; exact Hbd2, Hbw.out.alloc hsw _⟩
      case measure => simp [intOf]; omega
    · have e1 : l.take k = l := List.take_of_length_le (by omega)
      have hkn' : ¬ (k : Int) < (n : Int) := by omega
      rw [e1]
      clear e1
      go_wp2
      go_ret
      exact ⟨rfl, hbw⟩
def areaP (l : List R4) : Int := if validP l then sizeP l else 0
theorem valid_parts {l : List R4} (h : validP l = true) : l.length ≤ 120 ∧ l.all R4.ok = true ∧ canonP l = l := by
  simp only [validP, Bool.and_eq_true, decide_eq_true_eq] at h
  exact ⟨h.1.1, h.1.2, h.2⟩
theorem area_any (A : Option Addr) (n c : Nat) (l : List R4) (w : World) (hA : SlR w A n c l) :
    Calls Tryz.prog 11 #[.agg #[.slice A n c]] w fun e w' => e = .returned (.int .i64 (areaP l)) ∧ Below w.heap.size w w' := by
  have hx := hA.len
  have HA := Lib.hid hA
  clear hA
  have HV := Lib.hid (fun W (hW : Below w.heap.size w W) => valid_any A n c l W (HA.out.below hW))
  cases hv : validP l with
  | false =>
    have e0 : areaP l = 0 := by unfold areaP; rw [hv]; rfl
    rw [e0]
    rw [hv] at HV
    clear e0 hv
    go_enter Tryz.func11, Tryz.ntmps11
    go_wp2_with (first | (go_at_call 48; refine (HV.out _ gBel).mono ?_; rintro e w1 ⟨rfl, hb1⟩) | fail)
    go_ret
    exact ⟨rfl, gBelo⟩
  | true =>
    have e0 : areaP l = sizeP l := by unfold areaP; rw [hv]; rfl
    obtain ⟨hl, hok, _⟩ := valid_parts hv
    have Hs := Lib.hid (fun W (hW : Below w.heap.size w W) => size_any A n c l W (HA.out.below hW) hok (by omega))
    rw [e0]
    rw [hv] at HV
    clear e0 hv hok
    generalize sizeP l = s at *
    go_enter Tryz.func11, Tryz.ntmps11
    go_wp2_with (first
      | (go_at_call 48; refine (HV.out _ gBel).mono ?_; rintro e w1 ⟨rfl, hb1⟩; have cg1 : w1.cell? ⟨w.heap.size, 0, none⟩ = some (.slice A n c) := (hb1.cell (p := ⟨w.heap.size, 0, none⟩) (by simp)).trans (cell_of_row _ w.heap.size 0 _ _ _ (heap_alloc_new w _)); have Hb1 : Hid (Below w.heap.size w w1) := Lib.hid (show Below w.heap.size w w1 from (by have hbq := hb1; exact gBelo)); clear hb1)
      | (go_at_call 49; refine (Hs.out _ (Hb1.out.trans (Below.mono gBel Hb1.out.size))).mono ?_; rintro e w2 ⟨rfl, hb2⟩; have Hb2 : Hid (Below w1.heap.size w1 w2) := Lib.hid (show Below w1.heap.size w1 w2 from (by have hbq := hb2; exact gBelo)); clear hb2)
      | fail)
    go_ret
    exact ⟨rfl, Hb1.out.trans (Hb2.out.mono Hb1.out.size)⟩
theorem SegF.up {V : Type} {f : Int → Option V} {l : List (Sg V)} {c d : Int} (h : SegF f c l) (hd : c ≤ d) (hn : ∀ x, x < d → f x = none) : SegF f d l := by
  cases l with
  | nil => intro x hx; exact h x (by omega)
  | cons s t =>
    obtain ⟨a1, a2, a3, a4, a5, a6⟩ := h
    refine ⟨?_, a2, fun x h1 h2 => a3 x (by omega) h2, a4, a5, a6⟩
    rcases Int.lt_or_le s.1 d with h | h
    · have := a4 s.1 (Int.le_refl _) a2
      rw [hn s.1 h] at this; cases this
    · exact h
theorem segs_in {p : Int → Bool} {l : List (Sg Unit)} (h : Segs (fun x => opt (p x)) l) (s : Int) (hp : ∀ x, p x = true → 0 ≤ x ∧ x < s) : ∀ q ∈ l, 0 ≤ q.1 ∧ q.1 < q.2.1 ∧ q.2.1 ≤ s := by
  intro q hq
  have h0 := h.pos q hq
  have h1 := (h.mem q.1 q.2.2).2 ⟨q, hq, Int.le_refl _, h0, rfl⟩
  have h2 := (h.mem (q.2.1 - 1) q.2.2).2 ⟨q, hq, by omega, by omega, rfl⟩
  rw [opt_some] at h1 h2
  have := hp _ h1
  have := hp _ h2
  omega
def ind (b : Bool) : Int := if b then 1 else 0
theorem lt_len : ∀ (l : List Int) (lo hi : Int), l.Pairwise (· < ·) → (∀ k ∈ l, lo ≤ k ∧ k ≤ hi) → lo ≤ hi + 1 → (l.length : Int) ≤ hi - lo + 1
  | [], lo, hi, _, _, h => by simp; omega
  | x :: t, lo, hi, hp, hb, h => by
    obtain ⟨h1, h2⟩ := List.pairwise_cons.1 hp
    have hx := hb x (by simp)
    have := lt_len t (x + 1) hi h2 (fun k hk => by have := h1 k hk; have := hb k (by simp [hk]); omega) (by omega)
    simp; omega
theorem inL_of {l : List R4} {q : R4} (hq : q ∈ l) (h : q.l < q.r ∧ q.b < q.t) : inL l q.l q.b = true :=
  List.any_eq_true.2 ⟨q, hq, by simp [R4.has]; omega⟩
theorem row_in {s : Int} {l : List R4} (h : InS s l) (y : Int) : ∀ q ∈ rowP l y, 0 ≤ q.1 ∧ q.1 < q.2.1 ∧ q.2.1 ≤ s :=
  segs_in (rowP_segs l y h.pos) s fun x hx => by have := h.in x y hx; omega
theorem merge_len (how : Bool → Bool → Bool) (s : Nat) (A B : List (Sg Unit)) (hA : ∀ q ∈ A, 0 ≤ q.1 ∧ q.1 < q.2.1 ∧ q.2.1 ≤ (s : Int)) (hB : ∀ q ∈ B, 0 ≤ q.1 ∧ q.1 < q.2.1 ∧ q.2.1 ≤ (s : Int)) : (mergeP how A B).length ≤ s := by
  have h1 := foldC_len (fun x => opt (how (inR A x) (inR B x))) (asc (sEdges (A ++ B))) []
  have h2 := lt_len (asc (sEdges (A ++ B))) 0 s (asc_all _).1 (fun k hk => by
    have := ((asc_all _).2.1 k).1 hk
    simp only [sEdges, List.mem_flatMap] at this
    obtain ⟨q, hq, hk⟩ := this
    have hq' : 0 ≤ q.1 ∧ q.1 < q.2.1 ∧ q.2.1 ≤ (s : Int) := by
      rcases List.mem_append.1 hq with hq | hq
      · exact hA q hq
      · exact hB q hq
    simp at hk
    rcases hk with rfl | rfl <;> omega) (by omega)
  unfold mergeP
  simp at h1
  omega
theorem merge_len2 (how : Bool → Bool → Bool) (A B : List (Sg Unit)) : (mergeP how A B).length ≤ 2 * (A.length + B.length) := by
  have h1 := foldC_len (fun x => opt (how (inR A x) (inR B x))) (asc (sEdges (A ++ B))) []
  have h2 := (asc_all (sEdges (A ++ B))).2.2
  have h3 : (sEdges (A ++ B)).length = 2 * (A ++ B).length := by
    generalize A ++ B = l
    induction l with
    | nil => rfl
    | cons q t ih => simp [sEdges] at ih ⊢; omega
  rw [List.length_append] at h3
  unfold mergeP
  simp at h1
  omega
theorem choose_len (how : Bool → Bool → Bool) (s : Nat) (a b : List R4) (ha : InS s a) (hb : InS s b) : (chooseP how a b).length ≤ s * s := by
  have h1 := flat_len s (foldC (fun y => some (mergeP how (rowP a y) (rowP b y))) (cutsP (a ++ b)) []) (foldC_val (fun v : List (Sg Unit) => v.length ≤ s) _ (fun x v hv => by injection hv with hv; subst hv; exact merge_len how s _ _ (row_in ha x) (row_in hb x)) _ _ (by simp))
  have h2 := foldC_len (fun y => some (mergeP how (rowP a y) (rowP b y))) (cutsP (a ++ b)) []
  have h3 := lt_len (cutsP (a ++ b)) 0 s (asc_all _).1 (fun k hk => by
    have := ((asc_all _).2.1 k).1 hk
    simp only [yEdges, List.mem_flatMap] at this
    obtain ⟨q, hq, hk⟩ := this
    have hq' : 0 ≤ q.b ∧ q.b < q.t ∧ q.t ≤ (s : Int) := by
      rcases List.mem_append.1 hq with hq | hq
      · have := ha q hq; omega
      · have := hb q hq; omega
    simp at hk
    rcases hk with rfl | rfl <;> omega) (by omega)
  refine Nat.le_trans h1 (Nat.mul_le_mul_right _ ?_)
  simp at h2
  omega
theorem choose_mem (how : Bool → Bool → Bool) (h0 : how false false = false) {a b : List R4} (ha : ∀ q ∈ a, q.l < q.r) (hb : ∀ q ∈ b, q.l < q.r) (x y : Int) : inL (chooseP how a b) x y = how (inL a x y) (inL b x y) :=
  (choose_canon how h0 a b ha hb).mem x y
theorem choose_in (how : Bool → Bool → Bool) (h0 : how false false = false) {s : Int} {a b : List R4} (ha : InS s a) (hb : InS s b) : InS s (chooseP how a b) := by
  intro q hq
  have h1 := (choose_canon how h0 a b ha.pos hb.pos).bd 0 s 0 s (fun x y hx => by
    cases h1 : inL a x y with
    | true => exact ha.in x y h1
    | false =>
      cases h2 : inL b x y with
      | true => exact hb.in x y h2
      | false => rw [h1, h2, h0] at hx; cases hx) q hq
  omega
theorem choose_reg (how : Bool → Bool → Bool) (h0 : how false false = false) (s : Nat) {a b : List R4} (ha : InS s a) (hb : InS s b) : Reg s (s * s) (chooseP how a b) :=
  ⟨choose_in how h0 ha hb, (choose_canon how h0 a b ha.pos hb.pos).own (choose_in how h0 ha hb).pos, choose_len how s a b ha hb⟩
def orB (x y : Bool) : Bool := x || y
def andB (x y : Bool) : Bool := x && y
def notB (x y : Bool) : Bool := x && !y
def combineP (how : Bool → Bool → Bool) (a b : List R4) : List R4 × Int := if validP a && validP b then (if 120 < (chooseP how a b).length then ([], 1) else (chooseP how a b, 0)) else ([], 7)
theorem choose_is {how : Bool → Bool → Bool} (h0 : how false false = false) {a b c : List R4} (ha : ∀ q ∈ a, q.l < q.r) (hca : canonP a = a) (hb : ∀ q ∈ b, q.l < q.r) (hc : ∀ q ∈ c, q.l < q.r) (h : ∀ x y, how (inL b x y) (inL c x y) = inL a x y) : chooseP how b c = a := by
  have h1 := canonP_canon a ha
  rw [hca] at h1
  exact (choose_canon how h0 b c hb hc).uniq (h1.congr fun x y => (h x y).symm)
theorem choose_nil {how : Bool → Bool → Bool} (h0 : how false false = false) {s : Int} {a b : List R4} (ha : InS s a) (hb : InS s b) : chooseP how a b = [] ↔ ∀ x y, how (inL a x y) (inL b x y) = false := by
  constructor
  · intro h x y
    have := choose_mem how h0 ha.pos hb.pos x y
    rw [h] at this
    exact this.symm
  · intro h
    cases hc : chooseP how a b with
    | nil => rfl
    | cons q t =>
      have h1 := choose_in how h0 ha hb q (by rw [hc]; simp)
      have h2 := inL_of (l := chooseP how a b) (q := q) (by rw [hc]; simp) (by omega)
      rw [choose_mem how h0 ha.pos hb.pos, h] at h2
      cases h2
def overP (p q : R4) : Bool := decide (p.l < q.r) && decide (q.l < p.r) && decide (p.b < q.t) && decide (q.b < p.t)
def meetsP (a b : List R4) : Bool := validP a && validP b && a.any fun p => b.any fun q => overP p q
theorem over_some {s : Int} {a b : List R4} (ha : InS s a) (hb : InS s b) : (a.any fun p => b.any fun q => overP p q) = true ↔ ∃ x y, (inL a x y && inL b x y) = true := by
  constructor
  · intro h
    obtain ⟨p, hp, h⟩ := List.any_eq_true.1 h
    obtain ⟨q, hq, h⟩ := List.any_eq_true.1 h
    have h1 := ha p hp
    have h2 := hb q hq
    simp [overP] at h
    refine ⟨max p.l q.l, max p.b q.b, ?_⟩
    rw [Bool.and_eq_true]
    refine ⟨List.any_eq_true.2 ⟨p, hp, ?_⟩, List.any_eq_true.2 ⟨q, hq, ?_⟩⟩ <;> simp only [R4.has, Bool.and_eq_true, decide_eq_true_eq] <;> omega
  · rintro ⟨x, y, h⟩
    rw [Bool.and_eq_true] at h
    obtain ⟨p, hp, h1⟩ := List.any_eq_true.1 h.1
    obtain ⟨q, hq, h2⟩ := List.any_eq_true.1 h.2
    simp only [R4.has, Bool.and_eq_true, decide_eq_true_eq] at h1 h2
    exact List.any_eq_true.2 ⟨p, hp, List.any_eq_true.2 ⟨q, hq, by simp only [overP, Bool.and_eq_true, decide_eq_true_eq]; omega⟩⟩
theorem bool_eq {a b : Bool} (h : a = true ↔ b = true) : a = b := by cases a <;> cases b <;> simp_all
end Go.Proofs.YtfmkmhhghmdakaaGreatDoor
namespace Go.Proofs.YtfmkmhhghmdakaaGreatDoor
set_option maxHeartbeats 64000000
set_option maxRecDepth 100000
set_option linter.unusedVariables false
set_option linter.unusedSimpArgs false
def Cut (X : List Int) (p : Int → Bool) : Prop := ∀ x, p (x - 1) ≠ p x → x ∈ X
theorem Cut.mono {X Y : List Int} {p : Int → Bool} (h : Cut X p) (hs : ∀ x ∈ X, x ∈ Y) : Cut Y p := fun x hx => hs x (h x hx)
theorem Cut.how {X : List Int} {p q : Int → Bool} (how : Bool → Bool → Bool) (hp : Cut X p) (hq : Cut X q) : Cut X (fun x => how (p x) (q x)) := by
  intro x hx
  by_cases h1 : p (x - 1) = p x
  · by_cases h2 : q (x - 1) = q x
    · exact absurd (by dsimp only; rw [h1, h2]) hx
    · exact hq x h2
  · exact hp x h1
theorem cut_none (X : List Int) : Cut X (fun _ => false) := fun x hx => absurd rfl hx
theorem cut_has (q : R4) (y : Int) : Cut [q.l, q.r] (fun x => q.has x y) := by
  intro x hx
  by_cases h1 : x = q.l
  · simp [h1]
  by_cases h2 : x = q.r
  · simp [h2]
  exfalso
  apply hx
  have e1 : decide (q.l ≤ x - 1) = decide (q.l ≤ x) := decide_eq_decide.2 (by omega)
  have e2 : decide (x - 1 < q.r) = decide (x < q.r) := decide_eq_decide.2 (by omega)
  unfold R4.has
  dsimp only
  rw [e1, e2]
theorem cut_inL (y : Int) : ∀ l : List R4, Cut (xEdges l) (fun x => inL l x y)
  | [] => cut_none _
  | q :: t => by
    have e : (fun x => inL (q :: t) x y) = fun x => q.has x y || inL t x y := by funext x; simp [inL]
    rw [e]
    have e2 : xEdges (q :: t) = [q.l, q.r] ++ xEdges t := by simp [xEdges]
    rw [e2]
    exact Cut.how (· || ·) ((cut_has q y).mono fun x hx => List.mem_append_left _ hx) ((cut_inL y t).mono fun x hx => List.mem_append_right _ hx)
theorem SegF.endsY {p : Int → Bool} {X : List Int} (hX : Cut X p) : ∀ {l : List (Sg Unit)} {c : Int}, SegF (fun x => opt (p x)) c l → (p (c - 1) = false ∨ p c = false) →
    ∃ E : List Int, E.Pairwise (· < ·) ∧ E.length = 2 * l.length ∧ ∀ e ∈ E, e ∈ X ∧ c ≤ e ∧ (p c = false → c < e)
  | [], c, h, h0 => ⟨[], List.Pairwise.nil, rfl, fun e he => by cases he⟩
  | s :: t, c, h, h0 => by
    obtain ⟨h1, h2, h3, h4, h5, h6⟩ := h
    have hs : p s.1 = true := (opt_some _).1 (h4 s.1 (Int.le_refl _) h2)
    have hp : p (s.1 - 1) = false := by
      by_cases hc : s.1 = c
      · rcases h0 with h0 | h0
        · rw [hc]; exact h0
        · rw [hc, h0] at hs; cases hs
      · exact (opt_none _).1 (h3 (s.1 - 1) (by omega) (by omega))
    have he : p (s.2.1 - 1) = true := (opt_some _).1 (h4 (s.2.1 - 1) (by omega) (by omega))
    have hn : p s.2.1 = false := (opt_ne _ _).1 h5
    obtain ⟨E, e1, e2, e3⟩ := SegF.endsY hX h6 (.inr hn)
    refine ⟨s.1 :: s.2.1 :: E, ?_, by simp; omega, ?_⟩
    · rw [List.pairwise_cons, List.pairwise_cons]
      refine ⟨fun e hm => ?_, fun e hm => (e3 e hm).2.2 hn, e1⟩
      rcases List.mem_cons.1 hm with rfl | hm
      · exact h2
      · have := (e3 e hm).2.1; omega
    · intro e hm
      rcases List.mem_cons.1 hm with rfl | hm
      · refine ⟨hX _ (by rw [hp, hs]; simp), h1, fun h => ?_⟩
        rcases Int.lt_or_eq_of_le h1 with h7 | h7
        · exact h7
        · rw [h7, hs] at h; cases h
      · rcases List.mem_cons.1 hm with rfl | hm
        · exact ⟨hX _ (by rw [he, hn]; simp), by omega, fun _ => by omega⟩
        · have := (e3 e hm).2.1
          exact ⟨(e3 e hm).1, by omega, fun _ => by omega⟩
theorem sub_len : ∀ (E X : List Int), E.Pairwise (· < ·) → (∀ e ∈ E, e ∈ X) → E.length ≤ X.length
  | [], X, _, _ => by simp
  | e :: E, X, hp, hs => by
    obtain ⟨h1, h2⟩ := List.pairwise_cons.1 hp
    have he := hs e (by simp)
    have := sub_len E (X.erase e) h2 (fun k hk => (List.mem_erase_of_ne (by have := h1 k hk; omega)).2 (hs k (by simp [hk])))
    rw [List.length_erase_of_mem he] at this
    have := List.length_pos_of_mem he
    simp; omega
theorem segs_ends {p : Int → Bool} {X : List Int} {l : List (Sg Unit)} (h : Segs (fun x => opt (p x)) l) (hX : Cut X p) : 2 * l.length ≤ X.length := by
  obtain ⟨c, h0, h1⟩ := h
  obtain ⟨E, e1, e2, e3⟩ := SegF.endsY hX h1 (.inl ((opt_none _).1 (h0 (c - 1) (by omega))))
  have := sub_len E X e1 fun e he => (e3 e he).1
  omega
theorem SegF.count {V : Type} {f : Int → Option V} {e : Int} (he : ∀ x v, f x = some v → x < e) : ∀ {l : List (Sg V)} {c : Int}, SegF f c l → c ≤ e → (l.length : Int) ≤ e - c
  | [], c, h, hc => by simp; omega
  | s :: t, c, h, hc => by
    obtain ⟨h1, h2, h3, h4, h5, h6⟩ := h
    have h7 := he (s.2.1 - 1) s.2.2 (h4 (s.2.1 - 1) (by omega) (by omega))
    have := SegF.count he h6 (by omega)
    simp; omega
theorem canon_len {P : Int → Int → Bool} {R : List R4} (h : Canon P R) {X : List Int} (hX : ∀ y, Cut X (fun x => P x y)) (H : Nat) (hy : ∀ x y, P x y = true → 0 ≤ y ∧ y < H) : R.length ≤ H * (X.length / 2) := by
  obtain ⟨row, bs, h1, h2, rfl⟩ := h
  have hr : ∀ y, (row y).length ≤ X.length / 2 := fun y => by have := segs_ends (h1 y) (hX y); omega
  have hb : bs.length ≤ H := by
    have hn : ∀ y, ¬ (0 ≤ y ∧ y < (H : Int)) → nz (row y) = none := fun y h => by
      rw [segs_none (p := fun x => P x y) (fun x => by
        cases hx : P x y with
        | false => rfl
        | true => exact absurd (hy x y hx) h) (h1 y)]
      rfl
    obtain ⟨c, h0, h3⟩ := h2
    have h4 : SegF (fun y => nz (row y)) 0 bs := by
      rcases Int.le_total c 0 with hc | hc
      · exact h3.up hc fun x hx => hn x (by omega)
      · exact h3.down hc fun x hx hx2 => h0 x hx2
    have := SegF.count (e := (H : Int)) (fun x v hx => by
      rcases Int.lt_or_le x H with h5 | h5
      · exact h5
      · rw [hn x (by omega)] at hx; cases hx) h4 (by omega)
    omega
  have hf := flat_len (X.length / 2) bs (fun s hs => by
    have := (h2.mem s.1 s.2.2).2 ⟨s, hs, Int.le_refl _, h2.pos s hs, rfl⟩
    rw [← (nz_some this).1]
    exact hr _)
  exact Nat.le_trans hf (Nat.mul_le_mul_right _ hb)
structure Ln where
  pc : Int
  rg : List R4
  cr : Int
  sch : Int
def PclAt (i : Nat) (l : List R4) : Prop := ∃ a b : Int, (2 ≤ a ∧ a ≤ 9) ∧ (2 ≤ b ∧ b ≤ 9) ∧ l = [⟨10 * (i : Int), 0, 10 * (i : Int) + a, b⟩]
structure PcOk (R : List (List R4)) : Prop where
  m : R.length ≤ 3
  at' : ∀ i (h : i < R.length), PclAt i R[i]
theorem PclAt.in {i : Nat} {l : List R4} (h : PclAt i l) (x y : Int) (hx : inL l x y = true) : 10 * (i : Int) ≤ x ∧ x < 10 * (i : Int) + 9 ∧ 0 ≤ y ∧ y < 9 := by
  obtain ⟨a, b, ha, hb, rfl⟩ := h
  simp [inL, R4.has] at hx
  omega
structure LnOk (R : List (List R4)) (nc : Nat) (x : Ln) : Prop where
  pc : ∃ (p : Nat) (h : p < R.length), x.pc = (p : Int) + 1 ∧ ∀ u v, inL x.rg u v = true → inL R[p] u v = true
  reg : Reg 30 120 x.rg
  ne : x.rg ≠ []
  cr : 0 ≤ x.cr ∧ x.cr < (nc : Int)
  sch : 1 ≤ x.sch ∧ x.sch ≤ 15
structure LsOk (R : List (List R4)) (nc k : Nat) (L : List Ln) : Prop where
  ok : ∀ x ∈ L, LnOk R nc x
  dis : L.Pairwise fun a b => ∀ u v, inL a.rg u v = true → inL b.rg u v = false
  cut : ∃ X : List Int, X.length ≤ 6 + 4 * k ∧ (∀ x ∈ L, ∀ y, Cut X fun u => inL x.rg u y) ∧ ∀ r ∈ R, ∀ y, Cut X fun u => inL r u y
  len : L.length ≤ k
theorem PcOk.cut {R : List (List R4)} (h : PcOk R) : ∃ X : List Int, X.length ≤ 2 * R.length ∧ ∀ r ∈ R, ∀ y, Cut X fun u => inL r u y := by
  have hr : ∀ r ∈ R, r.length = 1 := by
    intro r hr
    obtain ⟨i, hi, rfl⟩ := List.getElem_of_mem hr
    obtain ⟨a, b, -, -, e⟩ := h.at' i hi
    rw [e]; rfl
  clear h
  induction R with
  | nil => exact ⟨[], by simp, fun r hr => (by cases hr)⟩
  | cons r R ih =>
    obtain ⟨X, h1, h2⟩ := ih fun q hq => hr q (by simp [hq])
    refine ⟨xEdges r ++ X, ?_, fun q hq y => ?_⟩
    · rw [List.length_append, xEdges_len, hr r (by simp)]; simp; omega
    · rcases List.mem_cons.1 hq with rfl | hq
      · exact (cut_inL y q).mono fun x hx => List.mem_append_left _ hx
      · exact (h2 q hq y).mono fun x hx => List.mem_append_right _ hx
theorem LsOk.nil {R : List (List R4)} (h : PcOk R) (nc : Nat) : LsOk R nc 0 [] := by
  obtain ⟨X, h1, h2⟩ := h.cut
  have := h.m
  exact ⟨fun x hx => (by cases hx), List.Pairwise.nil, ⟨X, by omega, fun x hx => (by cases hx), h2⟩, Nat.le_refl _⟩
structure LandOk (a : List R4) : Prop where
  ins : InS 9 a
  len : a.length ≤ 6
  cut : ∃ Y : List Int, Y.length ≤ 4 ∧ ∀ y, Cut Y fun x => inL a x y
def shift (p : Int) (a : List R4) : List R4 := a.map fun q => ⟨q.l + 10 * p, q.b, q.r + 10 * p, q.t⟩
theorem shift_in (p : Int) (a : List R4) (x y : Int) : inL (shift p a) x y = inL a (x - 10 * p) y := by
  unfold inL shift
  rw [List.any_map]
  refine any_congr' fun q _ => ?_
  show R4.has _ x y = q.has (x - 10 * p) y
  unfold R4.has
  have e1 : decide (q.l + 10 * p ≤ x) = decide (q.l ≤ x - 10 * p) := decide_eq_decide.2 (by omega)
  have e2 : decide (x < q.r + 10 * p) = decide (x - 10 * p < q.r) := decide_eq_decide.2 (by omega)
  rw [e1, e2]
def leftP (a r : List R4) (gs : List (List R4)) : List R4 := gs.foldl (fun acc g => combP notB acc g) (combP andB a r)
def leftB (a r : List R4) (gs : List (List R4)) (x y : Int) : Bool := inL a x y && inL r x y && !(gs.any fun g => inL g x y)
theorem leftP_canon (a r : List R4) (gs : List (List R4)) : Canon (leftB a r gs) (leftP a r gs) := by
  have key : ∀ (hs : List (List R4)) (acc : List R4) (P : Int → Int → Bool), Canon P acc → Canon (fun x y => P x y && !(hs.any fun g => inL g x y)) (hs.foldl (fun acc g => combP notB acc g) acc) := by
    intro hs
    induction hs with
    | nil => intro acc P h; exact h.congr fun x y => by simp
    | cons g hs ih =>
      intro acc P h
      have h1 := comb_canon notB rfl acc g
      have h2 := ih _ _ h1
      refine h2.congr fun x y => ?_
      rw [h.mem]
      simp [notB, Bool.and_assoc]
  exact (key gs _ _ (comb_canon andB rfl a r)).congr fun x y => by rw [leftB]; rfl
theorem leftP_snoc (a r : List R4) (gs : List (List R4)) (g : List R4) : leftP a r (gs ++ [g]) = combP notB (leftP a r gs) g := by simp [leftP, List.foldl_append]
theorem Cut.shift {Y : List Int} {p : Int → Bool} (h : Cut Y p) (d : Int) : Cut (Y.map (· + d)) fun x => p (x - d) := by
  intro x hx
  refine List.mem_map.2 ⟨x - d, h (x - d) ?_, by omega⟩
  rwa [show x - d - 1 = x - 1 - d by omega]
theorem cut_any {X : List Int} {y : Int} : ∀ (gs : List (List R4)), (∀ g ∈ gs, Cut X fun u => inL g u y) → Cut X fun u => gs.any fun g => inL g u y
  | [], _ => cut_none _
  | g :: gs, h => by
    have e : (fun u => (g :: gs).any fun g => inL g u y) = fun u => inL g u y || gs.any fun g => inL g u y := by funext u; simp
    rw [e]
    exact Cut.how (· || ·) (h g (by simp)) (cut_any gs fun k hk => h k (by simp [hk]))
theorem leftB_cut {X : List Int} {a r : List R4} {gs : List (List R4)} (ha : ∀ y, Cut X fun u => inL a u y) (hr : ∀ y, Cut X fun u => inL r u y) (hg : ∀ g ∈ gs, ∀ y, Cut X fun u => inL g u y) (y : Int) : Cut X fun u => leftB a r gs u y :=
  Cut.how notB (Cut.how andB (ha y) (hr y)) (cut_any gs fun g h => hg g h y)
theorem leftB_true {a r : List R4} {gs : List (List R4)} {x y : Int} (h : leftB a r gs x y = true) : inL r x y = true ∧ ∀ g ∈ gs, inL g x y = false := by
  unfold leftB at h
  rw [Bool.and_eq_true, Bool.and_eq_true, Bool.not_eq_true', List.any_eq_false] at h
  exact ⟨h.1.2, fun g hg => by have := h.2 g hg; simpa using this⟩
theorem LsOk.step {R : List (List R4)} {nc k : Nat} {L : List Ln} (hR : PcOk R) (h : LsOk R nc k L) (hk : k < 4) {a : List R4} (ha : LandOk a) {p : Nat} (hp : p < R.length) (j : Nat) : (leftP (shift p a) R[p] ((L.take j).map Ln.rg)).length ≤ 99 ∧
    (leftP (shift p a) R[p] (L.map Ln.rg) = [] → LsOk R nc (k + 1) L) ∧
    (leftP (shift p a) R[p] (L.map Ln.rg) ≠ [] → ∀ cr sch : Int, 0 ≤ cr ∧ cr < (nc : Int) → 1 ≤ sch ∧ sch ≤ 15 → LsOk R nc (k + 1) (L ++ [⟨(p : Int) + 1, leftP (shift p a) R[p] (L.map Ln.rg), cr, sch⟩])) := by
  obtain ⟨X, x1, x2, x3⟩ := h.cut
  obtain ⟨Y, y1, y2⟩ := ha.cut
  have hX : ∀ gs : List (List R4), (∀ g ∈ gs, ∃ x ∈ L, g = x.rg) → ∀ y, Cut (X ++ Y.map (· + 10 * (p : Int))) fun u => leftB (shift p a) R[p] gs u y := fun gs hgs => by
    refine leftB_cut (fun y => ?_) (fun y => (x3 _ (List.getElem_mem hp) y).mono fun x hx => List.mem_append_left _ hx) (fun g hg y => ?_)
    · have := (y2 y).shift (10 * (p : Int))
      refine Cut.mono (p := fun u => inL (shift p a) u y) ?_ fun x hx => List.mem_append_right X hx
      have e : (fun u => inL (shift p a) u y) = fun x => inL a (x - 10 * (p : Int)) y := by funext x; rw [shift_in]
      rw [e]
      exact this
    · obtain ⟨x, hx, rfl⟩ := hgs g hg
      exact (x2 x hx y).mono fun x hx => List.mem_append_left _ hx
  have hin : ∀ gs x y, leftB (shift p a) R[p] gs x y = true → 10 * (p : Int) ≤ x ∧ x < 10 * (p : Int) + 9 ∧ 0 ≤ y ∧ y < 9 := fun gs x y h => (hR.at' p hp).in x y (leftB_true h).1
  have hlen : ∀ gs : List (List R4), (∀ g ∈ gs, ∃ x ∈ L, g = x.rg) → (leftP (shift p a) R[p] gs).length ≤ 99 := fun gs hgs => by
    have h1 := canon_len (leftP_canon (shift p a) R[p] gs) (hX gs hgs) 9 (fun x y h => by have := hin _ _ _ h; omega)
    have h2 : (X ++ Y.map (· + 10 * (p : Int))).length ≤ 22 := by rw [List.length_append, List.length_map]; omega
    have h3 : (X ++ Y.map (· + 10 * (p : Int))).length / 2 ≤ 11 := by omega
    have := Nat.mul_le_mul_left 9 h3
    omega
  have hm : ∀ g ∈ L.map Ln.rg, ∃ x ∈ L, g = x.rg := fun g hg => by
    obtain ⟨x, hx, rfl⟩ := List.mem_map.1 hg
    exact ⟨x, hx, rfl⟩
  refine ⟨hlen _ fun g hg => ?_, fun _ => ⟨h.ok, h.dis, ⟨X, by omega, x2, x3⟩, by have := h.len; omega⟩, fun hne cr sch hcr hsch => ?_⟩
  · obtain ⟨x, hx, rfl⟩ := List.mem_map.1 hg
    exact ⟨x, List.mem_of_mem_take hx, rfl⟩
  have hc := leftP_canon (shift p a) R[p] (L.map Ln.rg)
  have hbd := hc.bd 0 30 0 30 (fun x y h => by have := hin _ _ _ h; have := hR.m; omega)
  have hreg : Reg 30 120 (leftP (shift p a) R[p] (L.map Ln.rg)) := ⟨hbd, hc.own fun q hq => (hbd q hq).2.1, by have := hlen _ hm; omega⟩
  refine ⟨fun x hx => ?_, ?_, ⟨X ++ Y.map (· + 10 * (p : Int)), by rw [List.length_append, List.length_map]; omega, fun x hx y => ?_, fun r hr y => (x3 r hr y).mono fun x hx => List.mem_append_left _ hx⟩, by have := h.len; simp; omega⟩
  · rcases List.mem_append.1 hx with hx | hx
    · exact h.ok x hx
    · rw [List.mem_singleton] at hx
      subst hx
      exact ⟨⟨p, hp, rfl, fun u v huv => by rw [hc.mem] at huv; exact (leftB_true huv).1⟩, hreg, hne, hcr, hsch⟩
  · rw [List.pairwise_append]
    refine ⟨h.dis, List.pairwise_singleton _ _, fun x hx z hz u v huv => ?_⟩
    rw [List.mem_singleton] at hz
    subst hz
    dsimp only
    rw [hc.mem]
    cases hb : leftB (shift p a) R[p] (L.map Ln.rg) u v with
    | false => rfl
    | true =>
      have := (leftB_true hb).2 x.rg (List.mem_map_of_mem hx)
      rw [huv] at this; cases this
  · rcases List.mem_append.1 hx with hx | hx
    · exact (x2 x hx y).mono fun x hx => List.mem_append_left _ hx
    · rw [List.mem_singleton] at hx
      subst hx
      dsimp only
      have e : (fun u => inL (leftP (shift p a) R[p] (L.map Ln.rg)) u y) = fun u => leftB (shift p a) R[p] (L.map Ln.rg) u y := by funext u; rw [hc.mem]
      rw [e]
      exact hX _ hm y
end Go.Proofs.YtfmkmhhghmdakaaGreatDoor
