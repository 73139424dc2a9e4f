/- ToleranceAnswers: its contracts (Measure and Sum of the reference, the sanity check) and its walk. -/
import Derived.Test.YteehihmjbibebaaGreatMv
import Derived.Test.YteehihmjbibebaaGreatBj
import Derived.Test.YteehihmjbibebaaGreatV4
import Derived.Test.YteehihmjbibebaaGreatMz
import Derived.Test.YteehihmjbibebaaGreatR9
import Derived.Test.YteehihmjbibebaaGreatV1
namespace Go.Proofs.YteehihmjbibebaaGreat
open Go.RowKit
set_option linter.unusedVariables false
set_option linter.unusedSimpArgs false

set_option maxHeartbeats 2000000 in
set_option maxRecDepth 100000 in
theorem meaR_any (A : Option Addr) (n c : Nat) (l : List R4) (w : World) (hA : SlR w A n c l) :
    Calls Tryz.prog 16 #[.agg #[.slice A n c]] w fun e w' => e = .returned (.tuple #[.agg #[.int .i64 (meaV l).1, .int .i64 (meaV l).2.1], .int .i64 (meaV l).2.2]) ∧ Below w.heap.size w w' := by
  have HA := Lib.hid hA
  have HB := Lib.hid (fun W (hW : SlR W A n c l) => bord5_any A n c l W hW)
  have HR := Lib.hid (fun W (hW : SlR W A n c l) => areaR_any A n c l W hW)
  clear hA
  obtain ⟨wa, hwa⟩ : ∃ wa : World, wa = (w.alloc (.cells #[.slice A n c] 27)).alloc (.cells #[.int .i64 0, .int .i64 0] 23) := ⟨_, rfl⟩
  have hsa : wa.heap.size = w.heap.size + 2 := by rw [hwa]; simp
  have Hba : Hid (Below w.heap.size w wa) := Lib.hid (by rw [hwa]; exact (by repeat' (first | with_reducible exact Below.refl _ _ | with_reducible refine below_drewN ?_ _ | with_reducible refine Below.drew ?_ | with_reducible refine Below.alloc ?_ ?_ _ | with_reducible refine Below.setCell ?_ ?_ _ | with_reducible refine Below.trans ?_ (Below.mono (by with_reducible assumption) ?_) | (simp; done) | (simp; omega) | omega)))
  have hra : wa.heap[w.heap.size]? = some (.cells #[.slice A n c] 27 (0, 0)) := by rw [hwa]; exact (Below.heap_alloc _ _ _ (by simp)).trans (heap_alloc_new w _)
  have hrb : wa.heap[w.heap.size + 1]? = some (.cells #[.int .i64 0, .int .i64 0] 23 (0, 0)) := by rw [hwa]; have := heap_alloc_new (w.alloc (.cells #[.slice A n c] 27)) (.cells #[.int .i64 0, .int .i64 0] 23); simpa using this
  have ca := cell_of_row wa w.heap.size 0 _ _ _ hra
  have Hrb := Lib.hid hrb
  have Hra := Lib.hid hra
  clear hra hrb
  unfold meaV
  unfold bordV at HB
  unfold areaP at HR
  cases hv : validP l with
  | false =>
    rw [hv] at HB
    clear HR hv
    go_enter Tryz.func16, Tryz.ntmps16
    go_upto_region 1 with fail
    rw [← hwa]
    have HW := Lib.hid hwa
    clear hwa
    go_upto_region 3 with (first
      | (go_at_call 27
         refine (HB.out _ (HA.out.below Hba.out)).mono ?_
         rintro e w1 ⟨rfl, hb1⟩
         have Hb1 := Lib.hid hb1
         have hs1 := hb1.size
         have hr1 := (hb1.block _ (by omega)).trans Hrb.out
         have Hr1 := Lib.hid hr1
         have c1 := cell_of_row w1 (w.heap.size + 1) 0 _ _ _ hr1
         have c2 := cell_of_row w1 (w.heap.size + 1) 1 _ _ _ hr1
         have f1 := frozen_of_row w1 (w.heap.size + 1) 0 _ _ hr1
         have f2 := frozen_of_row w1 (w.heap.size + 1) 1 _ _ hr1
         clear hb1 hr1)
      | fail)
    go_wp2
    have s0 : ((w1.setCell ⟨w.heap.size + 1, 0, none⟩ (.int .i64 0)).setCell ⟨w.heap.size + 1, 1, none⟩ (.int .i64 0)).heap[w.heap.size + 1]? = some (.cells #[.int .i64 0, .int .i64 0] 23 (0, 0)) := box2 Hr1.out
    have z0 := cell_of_row _ (w.heap.size + 1) 0 _ _ _ s0
    have z1 := cell_of_row _ (w.heap.size + 1) 1 _ _ _ s0
    refine bodyPost_ret (v := .tuple #[.agg #[.int .i64 0, .int .i64 0], .int .i64 7]) (by simp [results, Tryz.results16, go_sem, *]) rfl ?_
    exact ⟨rfl, (Hba.out.trans (Hb1.out.mono (by omega))).setCell (by simp) _ |>.setCell (by simp) _⟩
  | true =>
    rw [hv] at HB HR
    clear hv
    go_enter Tryz.func16, Tryz.ntmps16
    go_upto_region 1 with fail
    rw [← hwa]
    have HW := Lib.hid hwa
    clear hwa
    go_upto_region 4 with (first
      | (go_at_call 27
         refine (HB.out _ (HA.out.below Hba.out)).mono ?_
         rintro e w1 ⟨rfl, hb1⟩
         have Hb1 := Lib.hid hb1
         have hs1 := hb1.size
         have Hr1 := Lib.hid ((hb1.block _ (by omega)).trans Hrb.out)
         have c0 := cell_of_row w1 w.heap.size 0 _ _ _ ((hb1.block _ (by omega)).trans Hra.out)
         clear hb1)
      | fail)
    go_wp2_with (first
      | (go_at_call 28
         refine (HR.out _ (HA.out.below (Hba.out.trans (Hb1.out.mono (by omega))))).mono ?_
         rintro e w2 ⟨rfl, hb2⟩
         have Hb2 : Hid (Below w.heap.size w w2) := Lib.hid ((Hba.out.trans (Hb1.out.mono (by omega))).trans (hb2.mono (by omega)))
         have hs2 := hb2.size
         have Hr2 := Lib.hid ((hb2.block (w.heap.size + 1) (by omega)).trans Hr1.out)
         have c1 := cell_of_row w2 (w.heap.size + 1) 0 _ _ _ Hr2.out
         have c2 := cell_of_row w2 (w.heap.size + 1) 1 _ _ _ Hr2.out
         have f1 := frozen_of_row w2 (w.heap.size + 1) 0 _ _ Hr2.out
         have f2 := frozen_of_row w2 (w.heap.size + 1) 1 _ _ Hr2.out
         clear hb2)
      | fail)
    have s0 : ((w2.setCell ⟨w.heap.size + 1, 0, none⟩ (.int .i64 (sizeP l))).setCell ⟨w.heap.size + 1, 1, none⟩ (.int .i64 (bordP l))).heap[w.heap.size + 1]? = some (.cells #[.int .i64 (sizeP l), .int .i64 (bordP l)] 23 (0, 0)) := box2 Hr2.out
    have z0 := cell_of_row _ (w.heap.size + 1) 0 _ _ _ s0
    have z1 := cell_of_row _ (w.heap.size + 1) 1 _ _ _ s0
    refine bodyPost_ret (v := .tuple #[.agg #[.int .i64 (sizeP l), .int .i64 (bordP l)], .int .i64 0]) (by simp [results, Tryz.results16, go_sem, *]) rfl ?_
    exact ⟨rfl, (Hb2.out.setCell (by simp) _).setCell (by simp) _⟩
end Go.Proofs.YteehihmjbibebaaGreat
namespace Go.Proofs.YteehihmjbibebaaGreat
open Go.RowKit
set_option linter.unusedVariables false
set_option linter.unusedSimpArgs false

set_option maxHeartbeats 8000000 in
set_option maxRecDepth 100000 in
theorem sumR_any (A : Option Addr) (n c : Nat) (l : List (Int × Int)) (w : World) (hA : SlM w A n c l) :
    Calls Tryz.prog 18 #[.slice A n c] w (SumPost w (sumV l)) := by
  have hn := hA.len
  have HA := Lib.hid hA
  have hnm := Nat.le_trans hA.cap hA.top
  unfold maxLen at hnm
  clear hA
  by_cases hbig : 60 < n
  · have hb' : (60 : Int) < (n : Int) := by omega
    have hbd : decide (60 < n) = true := decide_eq_true hbig
    have Hv : Hid (sumV l = (0, 0, 1)) := Lib.hid (by unfold sumV; rw [if_pos (by omega)])
    generalize sumV l = res at *
    have hr0 : ∀ o, (w.alloc o).heap[w.heap.size]? = some o := fun o => heap_alloc_new w o
    go_enter Tryz.func18, Tryz.ntmps18
    go_upto_region 1 with fail
    obtain ⟨w1, hw1⟩ : ∃ w1 : World, w1 = w.alloc (.cells #[.int .i64 0, .int .i64 0] 23) := ⟨_, rfl⟩
    rw [← hw1]
    have Hr1 : Hid (w1.heap[w.heap.size]? = some (.cells #[.int .i64 0, .int .i64 0] 23 (0, 0))) := Lib.hid (by rw [hw1]; exact heap_alloc_new w _)
    have Hb1 : Hid (Below w.heap.size w w1) := Lib.hid (by rw [hw1]; exact (by repeat' (first | with_reducible exact Below.refl _ _ | with_reducible refine below_drewN ?_ _ | with_reducible refine Below.drew ?_ | with_reducible refine Below.alloc ?_ ?_ _ | with_reducible refine Below.setCell ?_ ?_ _ | with_reducible refine Below.trans ?_ (Below.mono (by with_reducible assumption) ?_) | (simp; done) | (simp; omega) | omega)))
    have c0 := cell_of_row w1 w.heap.size 0 _ _ _ Hr1.out
    have c1 := cell_of_row w1 w.heap.size 1 _ _ _ Hr1.out
    have f0 := frozen_of_row w1 w.heap.size 0 _ _ Hr1.out
    have f1 := frozen_of_row w1 w.heap.size 1 _ _ Hr1.out
    clear hw1 hr0
    go_wp2
    have s0 : ((w1.setCell ⟨w.heap.size, 0, none⟩ (.int .i64 0)).setCell ⟨w.heap.size, 1, none⟩ (.int .i64 0)).heap[w.heap.size]? = some (.cells #[.int .i64 0, .int .i64 0] 23 (0, 0)) := box2 Hr1.out
    have z0 := cell_of_row _ w.heap.size 0 _ _ _ s0
    have z1 := cell_of_row _ w.heap.size 1 _ _ _ s0
    refine bodyPost_ret (v := .tuple #[.agg #[.int .i64 0, .int .i64 0], .int .i64 1]) (by simp [results, Tryz.results18, go_sem, *]) rfl ?_
    rw [Hv.out]
    exact ⟨rfl, (Hb1.out.setCell (Nat.le_refl _) _).setCell (Nat.le_refl _) _⟩
  · have hb' : ¬ (60 : Int) < (n : Int) := by omega
    have hbd : decide (60 < n) = false := decide_eq_false hbig
    have Hv : Hid (sumV l = if l.all (fun m => measB m.1 m.2) && measB (sumA l) (sumB l) then (sumA l, sumB l, 0) else (0, 0, 3)) := Lib.hid (by unfold sumV; rw [if_neg (by omega)])
    generalize sumV l = res at *
    go_enter Tryz.func18, Tryz.ntmps18
    go_upto_region 5 with fail
    obtain ⟨w1, hw1⟩ : ∃ w1 : World, w1 = (w.alloc (.cells #[.int .i64 0, .int .i64 0] 23)).alloc (.cells #[.int .i64 0, .int .i64 0] 23) := ⟨_, rfl⟩
    rw [← hw1]
    have Hr1 : Hid (w1.heap[w.heap.size]? = some (.cells #[.int .i64 0, .int .i64 0] 23 (0, 0))) := Lib.hid (by rw [hw1]; exact (Below.heap_alloc _ _ _ (by simp)).trans (heap_alloc_new w _))
    have Hr2 : Hid (w1.heap[w.heap.size + 1]? = some (.cells #[.int .i64 0, .int .i64 0] 23 (0, 0))) := Lib.hid (by rw [hw1]; exact heap_alloc2_new w _ _)
    have Hb1 : Hid (Below w.heap.size w w1) := Lib.hid (by rw [hw1]; exact (by repeat' (first | with_reducible exact Below.refl _ _ | with_reducible refine below_drewN ?_ _ | with_reducible refine Below.drew ?_ | with_reducible refine Below.alloc ?_ ?_ _ | with_reducible refine Below.setCell ?_ ?_ _ | with_reducible refine Below.trans ?_ (Below.mono (by with_reducible assumption) ?_) | (simp; done) | (simp; omega) | omega)))
    have hs1 : w1.heap.size = w.heap.size + 2 := by rw [hw1]; simp
    clear hw1
    go_loopw [6, 13] (fun _ i wr => ∃ j : Nat, j ≤ n ∧ i = .int .i64 (j : Int) ∧ Hid ((l.take j).all (fun m => measB m.1 m.2) = true) ∧ Below w.heap.size w wr ∧ w.heap.size + 2 ≤ wr.heap.size ∧ wr.heap[w.heap.size]? = some (.cells #[.int .i64 0, .int .i64 0] 23 (0, 0)) ∧ wr.heap[w.heap.size + 1]? = some (.cells #[.int .i64 (sumA (l.take j)), .int .i64 (sumB (l.take j))] 23 (0, 0))) (fun _ i _ => n - (intOf i).toNat)
    case atStart => exact ⟨0, Nat.zero_le _, rfl, Lib.hid rfl, Hb1.out, by omega, Hr1.out, Hr2.out⟩
    case round =>
      obtain ⟨j, hj, rfl, Hall, hbr, hsr, hq, hp⟩ := hrel
      have Hbr := Lib.hid hbr
      have Hq := Lib.hid hq
      have Hp := Lib.hid hp
      clear hs1
      by_cases hjn : j < n
      · have hjl : j < l.length := by omega
        obtain ⟨b, off, hAe, hb, c0, c1⟩ := (HA.out.below hbr).at j hjl
        subst hAe
        have Hst := Lib.hid (sumA_take l j hjl)
        have Hal := Lib.hid (all_take_succ l (fun m => measB m.1 m.2) j hjl)
        have hsb := sum_bd _ Hall.out
        rw [List.length_take] at hsb
        have Hno : Hid (measB l[j].1 l[j].2 = false → res = (0, 0, 3)) := Lib.hid (fun h => by
          rw [Hv.out]
          have : l.all (fun m => measB m.1 m.2) = false := by
            cases h2 : l.all (fun m => measB m.1 m.2) with
            | false => rfl
            | true => rw [List.all_eq_true.1 h2 l[j] (List.getElem_mem hjl)] at h; cases h
          rw [this]; rfl)
        generalize l[j] = m at *
        generalize sumA (l.take j) = sa at *
        generalize sumB (l.take j) = sb at *
        have HM := Lib.hid (fun W => valid08_any m.1 m.2 W)
        have hjn' : (j : Int) < (n : Int) := by omega
        cases hm : measB m.1 m.2 with
        | true =>
          rw [hm] at Hal HM
          have hmb := (measB_iff _ _).1 hm
          have hw1 : IntKind.i64.wrap (sa + m.1) = sa + m.1 := IntWalk.i64_in _ (by omega)
          have hw2 : IntKind.i64.wrap (sb + m.2) = sb + m.2 := IntWalk.i64_in _ (by omega)
          clear hm hmb hsb hbr hq hp Hno
          go_upto_region 9 with (first
            | (go_at_call 21
               refine (HM.out _).mono ?_
               rintro e w2 ⟨rfl, hb2⟩
               have Hb2 : Hid (Below w.heap.size w w2) := Lib.hid ((Hbr.out.alloc (by omega) _).trans (hb2.mono (by simp; omega)))
               have hs2 : wr.heap.size < w2.heap.size := by have := hb2.size; simp at this; omega
               have Hq2 := Lib.hid ((hb2.block w.heap.size (by simp; omega)).trans ((Below.heap_alloc _ _ _ (by omega)).trans Hq.out))
               have Hp2 := Lib.hid ((hb2.block (w.heap.size + 1) (by simp; omega)).trans ((Below.heap_alloc _ _ _ (by omega)).trans Hp.out))
               have Hm2 := (hb2.block wr.heap.size (by simp)).trans (heap_alloc_new wr _)
               have k0 := cell_of_row w2 (w.heap.size + 1) 0 _ _ _ Hp2.out
               have k1 := cell_of_row w2 (w.heap.size + 1) 1 _ _ _ Hp2.out
               have k2 := frozen_of_row w2 (w.heap.size + 1) 0 _ _ Hp2.out
               have k3 := frozen_of_row w2 (w.heap.size + 1) 1 _ _ Hp2.out
               have m0 := cell_of_row w2 wr.heap.size 0 _ _ _ Hm2
               have m1 := cell_of_row w2 wr.heap.size 1 _ _ _ Hm2
               clear hb2 Hm2)
            | fail)
          go_region
          go_wp2
          go_roundw
          case rel =>
            refine ⟨j + 1, by omega, by go_num, Lib.hid (by rw [Hal.out, Hall.out]; rfl), ((Hb2.out.setCell (by simp) _).setCell (by simp) _).drew, by simp [World.setCell]; omega, ?_, ?_⟩
            · exact (box2x (by omega)).trans Hq2.out
            · rw [Hst.out.1, Hst.out.2]; exact box2 Hp2.out
          case measure => simp [intOf]; omega
        | false =>
          rw [hm] at HM
          have Hres := Lib.hid (Hno.out hm)
          clear hm hsb hbr hq hp Hno
          go_upto_region 8 with (first
            | (go_at_call 21
               refine (HM.out _).mono ?_
               rintro e w2 ⟨rfl, hb2⟩
               have Hb2 : Hid (Below w.heap.size w w2) := Lib.hid ((Hbr.out.alloc (by omega) _).trans (hb2.mono (by simp; omega)))
               have Hq2 := Lib.hid ((hb2.block w.heap.size (by simp; omega)).trans ((Below.heap_alloc _ _ _ (by omega)).trans Hq.out))
               have k0 := cell_of_row w2 w.heap.size 0 _ _ _ Hq2.out
               have k1 := cell_of_row w2 w.heap.size 1 _ _ _ Hq2.out
               have k2 := frozen_of_row w2 w.heap.size 0 _ _ Hq2.out
               have k3 := frozen_of_row w2 w.heap.size 1 _ _ Hq2.out
               clear hb2)
            | fail)
          go_wp2
          have s0 : ((w2.setCell ⟨w.heap.size, 0, none⟩ (.int .i64 0)).setCell ⟨w.heap.size, 1, none⟩ (.int .i64 0)).heap[w.heap.size]? = some (.cells #[.int .i64 0, .int .i64 0] 23 (0, 0)) := box2 Hq2.out
          have z0 := cell_of_row _ w.heap.size 0 _ _ _ s0
          have z1 := cell_of_row _ w.heap.size 1 _ _ _ s0
          refine bodyPost_ret (v := .tuple #[.agg #[.int .i64 0, .int .i64 0], .int .i64 3]) (by simp [results, Tryz.results18, go_sem, *]) rfl ?_
          rw [Hres.out]
          exact ⟨rfl, (Hb2.out.setCell (Nat.le_refl _) _).setCell (Nat.le_refl _) _⟩
      · have hall : l.all (fun m => measB m.1 m.2) = true := by have := Hall.out; rw [List.take_of_length_le (by omega)] at this; exact this
        have Hp' : Hid (wr.heap[w.heap.size + 1]? = some (.cells #[.int .i64 (sumA l), .int .i64 (sumB l)] 23 (0, 0))) := Lib.hid (by have := hp; rw [List.take_of_length_le (by omega)] at this; exact this)
        rw [hall, Bool.true_and] at Hv
        have HM := Lib.hid (fun W => valid08_any (sumA l) (sumB l) W)
        generalize sumA l = sa at *
        generalize sumB l = sb at *
        have hjn' : ¬ (j : Int) < (n : Int) := by omega
        have k0 := cell_of_row wr (w.heap.size + 1) 0 _ _ _ Hp'.out
        have k1 := cell_of_row wr (w.heap.size + 1) 1 _ _ _ Hp'.out
        clear hall hbr hq hp Hp
        cases hm : measB sa sb with
        | true =>
          rw [hm] at HM
          have Hres : Hid (res = (sa, sb, 0)) := Lib.hid (by rw [Hv.out, hm]; rfl)
          clear hm Hv
          go_wp2_with (first
            | (go_at_call 21
               refine (HM.out _).mono ?_
               rintro e w2 ⟨rfl, hb2⟩
               have Hb2 : Hid (Below w.heap.size w w2) := Lib.hid (Hbr.out.trans (hb2.mono (by omega)))
               have Hq2 := Lib.hid ((hb2.block w.heap.size (by omega)).trans Hq.out)
               have Hp2 := Lib.hid ((hb2.block (w.heap.size + 1) (by omega)).trans Hp'.out)
               have g0 := cell_of_row w2 (w.heap.size + 1) 0 _ _ _ Hp2.out
               have g1 := cell_of_row w2 (w.heap.size + 1) 1 _ _ _ Hp2.out
               have q0 := cell_of_row w2 w.heap.size 0 _ _ _ Hq2.out
               have q1 := cell_of_row w2 w.heap.size 1 _ _ _ Hq2.out
               have q2 := frozen_of_row w2 w.heap.size 0 _ _ Hq2.out
               have q3 := frozen_of_row w2 w.heap.size 1 _ _ Hq2.out
               clear hb2)
            | fail)
          have s0 : ((w2.setCell ⟨w.heap.size, 0, none⟩ (.int .i64 sa)).setCell ⟨w.heap.size, 1, none⟩ (.int .i64 sb)).heap[w.heap.size]? = some (.cells #[.int .i64 sa, .int .i64 sb] 23 (0, 0)) := box2 Hq2.out
          have z0 := cell_of_row _ w.heap.size 0 _ _ _ s0
          have z1 := cell_of_row _ w.heap.size 1 _ _ _ s0
          refine bodyPost_ret (v := .tuple #[.agg #[.int .i64 sa, .int .i64 sb], .int .i64 0]) (by simp [results, Tryz.results18, go_sem, *]) rfl ?_
          rw [Hres.out]
          exact ⟨rfl, (Hb2.out.setCell (Nat.le_refl _) _).setCell (Nat.le_refl _) _⟩
        | false =>
          rw [hm] at HM
          have Hres : Hid (res = (0, 0, 3)) := Lib.hid (by rw [Hv.out, hm]; rfl)
          clear hm Hv
          go_wp2_with (first
            | (go_at_call 21
               refine (HM.out _).mono ?_
               rintro e w2 ⟨rfl, hb2⟩
               have Hb2 : Hid (Below w.heap.size w w2) := Lib.hid (Hbr.out.trans (hb2.mono (by omega)))
               have Hq2 := Lib.hid ((hb2.block w.heap.size (by omega)).trans Hq.out)
               have q0 := cell_of_row w2 w.heap.size 0 _ _ _ Hq2.out
               have q1 := cell_of_row w2 w.heap.size 1 _ _ _ Hq2.out
               have q2 := frozen_of_row w2 w.heap.size 0 _ _ Hq2.out
               have q3 := frozen_of_row w2 w.heap.size 1 _ _ Hq2.out
               clear hb2)
            | fail)
          have s0 : ((w2.setCell ⟨w.heap.size, 0, none⟩ (.int .i64 0)).setCell ⟨w.heap.size, 1, none⟩ (.int .i64 0)).heap[w.heap.size]? = some (.cells #[.int .i64 0, .int .i64 0] 23 (0, 0)) := box2 Hq2.out
          have z0 := cell_of_row _ w.heap.size 0 _ _ _ s0
          have z1 := cell_of_row _ w.heap.size 1 _ _ _ s0
          refine bodyPost_ret (v := .tuple #[.agg #[.int .i64 0, .int .i64 0], .int .i64 3]) (by simp [results, Tryz.results18, go_sem, *]) rfl ?_
          rw [Hres.out]
          exact ⟨rfl, (Hb2.out.setCell (Nat.le_refl _) _).setCell (Nat.le_refl _) _⟩
end Go.Proofs.YteehihmjbibebaaGreat
namespace Go.Proofs.YteehihmjbibebaaGreat
open Go.RowKit
set_option linter.unusedVariables false
set_option linter.unusedSimpArgs false

theorem awake8_valid : validP [⟨0, 0, 10, 10⟩] = true := by
  have h : ∀ q ∈ [(⟨0, 0, 10, 10⟩ : R4)], q.l < q.r := by decide
  unfold validP
  rw [canonP_comb _ h]
  decide
theorem awake8_in : InS (10 : Nat) [⟨0, 0, 10, 10⟩] := by
  intro q hq
  simp at hq
  subst hq
  simp
theorem awake8_mea : meaV [⟨0, 0, 10, 10⟩] = (100, 40, 0) := by
  unfold meaV
  rw [awake8_valid, bordP_true _ 10 (by omega) awake8_in]
  decide +kernel

set_option maxHeartbeats 2000000 in
set_option maxRecDepth 100000 in
theorem awake8_any (w : World) : Calls Tryz.prog 4 #[] w fun e w' => e = .returned (.bool true) ∧ Below w.heap.size w w' := by
  have HM : Hid (∀ A c W, SlR W A 1 c [⟨0, 0, 10, 10⟩] → Calls Tryz.prog 15 #[.agg #[.slice A 1 c]] W fun e w' => e = .returned (.tuple #[.agg #[.int .i64 100, .int .i64 40], .int .i64 0]) ∧ Below W.heap.size W w') := Lib.hid (fun A c W h => by have := meaT_any A 1 c _ W h; rwa [awake8_mea] at this)
  have H1 : Hid (∀ W, Calls Tryz.prog 8 #[.agg #[.int .i64 100, .int .i64 40], .int .i64 50] W fun e w' => e = .returned (.tuple #[.int .i64 20, .int .i64 0]) ∧ Below W.heap.size W w') := Lib.hid (fun W => by have := marginT_any 100 40 50 W; rwa [show marginV 100 40 50 = 20 from by decide, show checkT 0 100 40 50 = 0 from by decide] at this)
  have H2 : Hid (∀ W, Calls Tryz.prog 10 #[.int .i64 115, .agg #[.int .i64 100, .int .i64 40], .int .i64 50] W fun e w' => e = .returned (.tuple #[.int .i64 115, .int .i64 0]) ∧ Below W.heap.size W w') := Lib.hid (fun W => by have := acceptT_any 115 100 40 50 W; rwa [show acceptV 115 100 40 50 = 115 from by decide, show checkT 115 100 40 50 = 0 from by decide] at this)
  have H3 : Hid (∀ W, Calls Tryz.prog 10 #[.int .i64 121, .agg #[.int .i64 100, .int .i64 40], .int .i64 50] W fun e w' => e = .returned (.tuple #[.int .i64 100, .int .i64 0]) ∧ Below W.heap.size W w') := Lib.hid (fun W => by have := acceptT_any 121 100 40 50 W; rwa [show acceptV 121 100 40 50 = 100 from by decide, show checkT 121 100 40 50 = 0 from by decide] at this)
  have H4 : Hid (∀ W, Calls Tryz.prog 12 #[.int .i64 121, .agg #[.int .i64 100, .int .i64 40], .int .i64 50] W fun e w' => e = .returned (.tuple #[.int .i64 (-1), .int .i64 0]) ∧ Below W.heap.size W w') := Lib.hid (fun W => by have := decideT_any 121 100 40 50 W; rwa [show decideV 121 100 40 50 = -1 from by decide, show checkT 121 100 40 50 = 0 from by decide] at this)
  go_enter Tryz.func4, Tryz.ntmps4
  go_upto_region 2 with (first
    | (go_at_call 15
       refine (HM.out (some ⟨w.heap.size, 0, none⟩) 1 _ (SlR.lit _ _ _ _ _ _ rfl rfl (by omega) rfl)).mono ?_
       rintro e w1 ⟨rfl, hb1⟩
       have Hb1 : Hid (Below w.heap.size w w1) := Lib.hid (by have hbq := hb1; exact (by repeat' (first | with_reducible exact Below.refl _ _ | with_reducible assumption | with_reducible refine below_drewN ?_ _ | with_reducible refine Below.drew ?_ | with_reducible refine Below.alloc ?_ ?_ _ | with_reducible refine Below.setCell ?_ ?_ _ | with_reducible refine Below.trans ?_ (Below.mono (by with_reducible assumption) ?_) | with_reducible refine below_only ?_ (by with_reducible assumption) ?_ ?_ | (simp; done) | (simp; omega) | omega)))
       have hs1 := Hb1.out.size
       clear hb1)
    | fail)
  obtain ⟨w2, hw2⟩ : ∃ w2 : World, w2 = w1.alloc (.cells #[.int .i64 100, .int .i64 40] 23) := ⟨_, rfl⟩
  rw [← hw2]
  have hr2 : w2.heap[w1.heap.size]? = some (.cells #[.int .i64 100, .int .i64 40] 23 (0, 0)) := by rw [hw2]; exact heap_alloc_new w1 _
  have hs2 : w1.heap.size < w2.heap.size := by rw [hw2]; simp
  have Hb2 : Hid (Below w.heap.size w w2) := Lib.hid (by rw [hw2]; exact Hb1.out.alloc hs1 _)
  have Hr2 := Lib.hid hr2
  have c0 := cell_of_row w2 w1.heap.size 0 _ _ _ hr2
  have c1 := cell_of_row w2 w1.heap.size 1 _ _ _ hr2
  clear hw2 hr2
  go_upto_region 3 with (first
    | (go_at_call 8
       refine (H1.out _).mono ?_
       rintro e w3 ⟨rfl, hb3⟩
       have Hr3 := Lib.hid ((hb3.block _ hs2).trans Hr2.out)
       have hs3 := Nat.lt_of_lt_of_le hs2 hb3.size
       have Hb3 : Hid (Below w.heap.size w w3) := Lib.hid (Hb2.out.trans (hb3.mono Hb2.out.size))
       have d0 := cell_of_row w3 w1.heap.size 0 _ _ _ Hr3.out
       have d1 := cell_of_row w3 w1.heap.size 1 _ _ _ Hr3.out
       clear hb3 c0 c1)
    | fail)
  go_upto_region 4 with (first
    | (go_at_call 10
       refine (H2.out _).mono ?_
       rintro e w4 ⟨rfl, hb4⟩
       have Hr4 := Lib.hid ((hb4.block _ hs3).trans Hr3.out)
       have hs4 := Nat.lt_of_lt_of_le hs3 hb4.size
       have Hb4 : Hid (Below w.heap.size w w4) := Lib.hid (Hb3.out.trans (hb4.mono Hb3.out.size))
       have e0 := cell_of_row w4 w1.heap.size 0 _ _ _ Hr4.out
       have e1 := cell_of_row w4 w1.heap.size 1 _ _ _ Hr4.out
       clear hb4 d0 d1)
    | fail)
  go_upto_region 5 with (first
    | (go_at_call 10
       refine (H3.out _).mono ?_
       rintro e w5 ⟨rfl, hb5⟩
       have Hr5 := Lib.hid ((hb5.block _ hs4).trans Hr4.out)
       have hs5 := Nat.lt_of_lt_of_le hs4 hb5.size
       have Hb5 : Hid (Below w.heap.size w w5) := Lib.hid (Hb4.out.trans (hb5.mono Hb4.out.size))
       have f0 := cell_of_row w5 w1.heap.size 0 _ _ _ Hr5.out
       have f1 := cell_of_row w5 w1.heap.size 1 _ _ _ Hr5.out
       clear hb5 e0 e1)
    | fail)
  go_upto_region 6 with (first
    | (go_at_call 12
       refine (H4.out _).mono ?_
       rintro e w6 ⟨rfl, hb6⟩
       have Hr6 := Lib.hid ((hb6.block _ hs5).trans Hr5.out)
       have Hb6 : Hid (Below w.heap.size w w6) := Lib.hid (Hb5.out.trans (hb6.mono Hb5.out.size))
       have g0 := cell_of_row w6 w1.heap.size 0 _ _ _ Hr6.out
       have g1 := cell_of_row w6 w1.heap.size 1 _ _ _ Hr6.out
       clear hb6 f0 f1)
    | fail)
  go_wp2
  go_ret
  exact ⟨rfl, Hb6.out⟩
end Go.Proofs.YteehihmjbibebaaGreat
namespace Go.Proofs.YteehihmjbibebaaGreat
open Go.RowKit
set_option linter.unusedVariables false
set_option linter.unusedSimpArgs false

theorem brk_len3 (r : List Int) : (mkBrk r 9 3).1.length ≤ 92 := mkBrk_len r 9 3 (by omega) (by omega)
/-- The measurements, the widths, the claims that are asked. -/
def ms3 (a b x y : Int) (j : Nat) : Int × Int := if j = 0 then (a, b) else if j = 1 then (x, y) else (268435456, 16777216)
def two (a b : Int) (j : Nat) : Int := if j = 0 then a else b
def three (a b c : Int) (j : Nat) : Int := if j = 0 then a else if j = 1 then b else c

set_option maxHeartbeats 32000000 in
set_option maxRecDepth 200000 in
theorem answers8Law (cl wd a0 b0 : Int) (L : Option Addr) (ln lc : Nat) (lm : List (Int × Int)) (D1 : Option Addr) (k1 : Nat) (ra : List R4) (A : Option Addr) (n c : Nat) (zs : List Int) (w : World) (hcl : (Lit.int .i64 cl).wf = true) (hwd : (Lit.int .i64 wd).wf = true) (hL : SlM w L ln lc lm) (hA : SlR w D1 ra.length k1 ra)
    (hn : zs.length = n) (hc : n ≤ c) (hm : c ≤ maxLen) (hw : ∀ z ∈ zs, (Lit.int .i64 z).wf = true) (hZ : Lies w A n (zs.map (.int .i64))) :
    Calls Tryz.prog 3 #[.int .i64 cl, .int .i64 wd, .agg #[.int .i64 a0, .int .i64 b0], .slice L ln lc, .agg #[.slice D1 ra.length k1], .slice A n c] w fun e w' => e = .returned (.bool true) ∧ Below w.heap.size w w' := by
  have hzb := modV_bd cl 3500 (by omega)
  have hyb := modV_bd wd 203 (by omega)
  have HM1 := Lib.hid (fun W => mod_any wd 203 W (bounds_i64 hwd) (by omega))
  have HM2 := Lib.hid (fun W => mod_any cl 3500 W (bounds_i64 hcl) (by omega))
  generalize modV cl 3500 = z at *
  generalize modV wd 203 = y at *
  have hwy : IntKind.i64.wrap (y - 1) = y - 1 := IntWalk.i64_in _ (by omega)
  have hln := hL.len
  clear hcl hwd
  go_enter Tryz.func3, Tryz.ntmps3
  go_upto_region 1 with fail
  obtain ⟨wa, hwa⟩ : ∃ wa : World, wa = (w.alloc (.cells #[.int .i64 a0, .int .i64 b0] 23)).alloc (.cells #[.slice D1 ra.length k1] 27) := ⟨_, rfl⟩
  rw [← hwa]
  have Hba : Hid (Below w.heap.size w wa) := Lib.hid (by rw [hwa]; exact (by repeat' (first | with_reducible exact Below.refl _ _ | with_reducible refine below_drewN ?_ _ | with_reducible refine Below.drew ?_ | with_reducible refine Below.alloc ?_ ?_ _ | with_reducible refine Below.setCell ?_ ?_ _ | with_reducible refine Below.trans ?_ (Below.mono (by with_reducible assumption) ?_) | (simp; done) | (simp; omega) | omega)))
  have Hm8 : Hid (wa.heap[w.heap.size]? = some (.cells #[.int .i64 a0, .int .i64 b0] 23 (0, 0))) := Lib.hid (by rw [hwa]; exact (Below.heap_alloc _ _ _ (by simp)).trans (heap_alloc_new w _))
  have Hm10 : Hid (wa.heap[w.heap.size + 1]? = some (.cells #[.slice D1 ra.length k1] 27 (0, 0))) := Lib.hid (by rw [hwa]; exact heap_alloc2_new w _ _)
  have hsa : wa.heap.size = w.heap.size + 2 := by rw [hwa]; simp
  have HLa := Lib.hid (hL.below Hba.out)
  have HAa := Lib.hid (hA.below Hba.out)
  have HN := Lib.hid (new_any A n c zs wa hn hc hm hw (hZ.below Hba.out))
  have c10 := cell_of_row wa (w.heap.size + 1) 0 _ _ _ Hm10.out
  clear hwa hL hA hZ hw hn
  by_cases h1 : 70 < ln
  · have h1' : (70 : Int) < (ln : Int) := by omega
    have h1d : decide (70 < ln) = true := decide_eq_true h1
    go_wp2_with (first | (go_at_call 4; refine (awake8_any _).mono ?_; rintro e w1 ⟨rfl, hb1⟩; have Hb1 := Lib.hid hb1; clear hb1) | fail)
    go_ret
    exact ⟨rfl, Hba.out.trans (Hb1.out.mono (by omega))⟩
  · have h1' : ¬ (70 : Int) < (ln : Int) := by omega
    have h1d : decide (70 < ln) = false := decide_eq_false h1
    by_cases h2 : 8 < ra.length
    · have h2' : (8 : Int) < (ra.length : Int) := by omega
      have h2d : decide (8 < ra.length) = true := decide_eq_true h2
      go_wp2_with (first | (go_at_call 4; refine (awake8_any _).mono ?_; rintro e w1 ⟨rfl, hb1⟩; have Hb1 := Lib.hid hb1; clear hb1) | fail)
      go_ret
      exact ⟨rfl, Hba.out.trans (Hb1.out.mono (by omega))⟩
    · have h2' : ¬ (8 : Int) < (ra.length : Int) := by omega
      have h2d : decide (8 < ra.length) = false := decide_eq_false h2
      generalize zs.take 400 = r at *
      go_upto_region 4 with (first
        | (go_at_call 5
           refine HN.out.mono ?_
           rintro e w0 ⟨g, rfl, hg, ht, hb0⟩
           have HT0 := Lib.hid ht
           have Hb0 := Lib.hid hb0
           have hs0 := hb0.size
           clear ht hb0)
        | fail)
      have hx1 := nx_bd r 3000 (by omega)
      have hx2 := nx_bd r.tail 400 (by omega)
      have HX1 := Lib.hid (fun W (hW : TapeAt W g r) => next_any g r 3000 W hW (by omega))
      have HX2 := Lib.hid (fun W (hW : TapeAt W g r.tail) => next_any g r.tail 400 W hW (by omega))
      generalize nx r 3000 = x1 at *
      generalize nx r.tail 400 = x2 at *
      go_upto_region 5 with (first
        | (go_at_call 6
           have hguard := HT1.out
           refine (HX2.out _ HT1.out).mono ?_
           rintro e w2 ⟨rfl, ht2, hg2⟩
           have HT2 := Lib.hid ht2
           have Hb2 : Hid (Below wa.heap.size wa w2) := Lib.hid (below_only Hb1.out hg2 hg Hb1.out.size)
           clear ht2 hg2)
        | (go_at_call 6
           refine (HX1.out _ HT0.out).mono ?_
           rintro e w1 ⟨rfl, ht1, hg1⟩
           have HT1 := Lib.hid ht1
           have Hb1 : Hid (Below wa.heap.size wa w1) := Lib.hid (below_only Hb0.out hg1 hg hs0)
           clear ht1 hg1)
        | fail)
      obtain ⟨w3, hw3⟩ : ∃ w3 : World, w3 = w2.alloc (.cells #[.int .i64 x1, .int .i64 x2] 23) := ⟨_, rfl⟩
      rw [← hw3]
      have Hm14 : Hid (w3.heap[w2.heap.size]? = some (.cells #[.int .i64 x1, .int .i64 x2] 23 (0, 0))) := Lib.hid (by rw [hw3]; exact heap_alloc_new w2 _)
      have hs3 : w2.heap.size < w3.heap.size := by rw [hw3]; simp
      have Hb3 : Hid (Below wa.heap.size wa w3) := Lib.hid (by rw [hw3]; exact Hb2.out.alloc Hb2.out.size _)
      have HT3 : Hid (TapeAt w3 g r.tail.tail) := Lib.hid (by rw [hw3]; exact HT2.out.alloc _)
      have hs3a := Hb3.out.size
      have c80 := cell_of_row w3 w.heap.size 0 _ _ _ ((Hb3.out.block _ (by omega)).trans Hm8.out)
      have c81 := cell_of_row w3 w.heap.size 1 _ _ _ ((Hb3.out.block _ (by omega)).trans Hm8.out)
      have c140 := cell_of_row w3 w2.heap.size 0 _ _ _ Hm14.out
      have c141 := cell_of_row w3 w2.heap.size 1 _ _ _ Hm14.out
      have hgw2 : g < w2.heap.size := HT2.out.lt
      clear hw3 HT2 Hb2 HT0 Hb0 HX1 HX2 HN c10
      go_upto_region 6 with fail
      obtain ⟨w4, hw4⟩ : ∃ w4 : World, w4 = w3.alloc (.cells #[.int .i64 a0, .int .i64 b0, .int .i64 x1, .int .i64 x2, .int .i64 268435456, .int .i64 16777216] 23) := ⟨_, rfl⟩
      rw [← hw4]
      have hr4 : w4.heap[w3.heap.size]? = some (.cells #[.int .i64 a0, .int .i64 b0, .int .i64 x1, .int .i64 x2, .int .i64 268435456, .int .i64 16777216] 23 (0, 0)) := by rw [hw4]; exact heap_alloc_new w3 _
      have hs4 : w3.heap.size < w4.heap.size := by rw [hw4]; simp
      have Hb4 : Hid (Below wa.heap.size wa w4) := Lib.hid (by rw [hw4]; exact Hb3.out.alloc hs3a _)
      have HT4 : Hid (TapeAt w4 g r.tail.tail) := Lib.hid (by rw [hw4]; exact HT3.out.alloc _)
      have Hm14b : Hid (w4.heap[w2.heap.size]? = some (.cells #[.int .i64 x1, .int .i64 x2] 23 (0, 0))) := Lib.hid (by rw [hw4]; exact (Below.heap_alloc _ _ _ hs3).trans Hm14.out)
      have Hms : Hid (∀ j, j < 3 → w4.cell? ⟨w3.heap.size, j * 2, none⟩ = some (.int .i64 (ms3 a0 b0 x1 x2 j).1) ∧ w4.cell? ⟨w3.heap.size, j * 2 + 1, none⟩ = some (.int .i64 (ms3 a0 b0 x1 x2 j).2)) := Lib.hid (fun j hj => by
        rcases (show j = 0 ∨ j = 1 ∨ j = 2 by omega) with rfl | rfl | rfl
        · exact ⟨cell_of_row w4 _ 0 _ _ _ hr4, cell_of_row w4 _ 1 _ _ _ hr4⟩
        · exact ⟨cell_of_row w4 _ 2 _ _ _ hr4, cell_of_row w4 _ 3 _ _ _ hr4⟩
        · exact ⟨cell_of_row w4 _ 4 _ _ _ hr4, cell_of_row w4 _ 5 _ _ _ hr4⟩)
      clear hw4 hr4 HT3 Hm14 Hb3 c80 c81 c140 c141
      go_loopw [16, 18, 20, 21, 22, 23, 24, 25, 26, 27, 28, 29, 30, 31, 32, 67] (fun _ _ _ _ _ _ _ _ _ _ _ _ _ _ _ i wr => ∃ j : Nat, j ≤ 3 ∧ i = .int .i64 (j : Int) ∧ Below w4.heap.size w4 wr) (fun _ _ _ _ _ _ _ _ _ _ _ _ _ _ _ i _ => 3 - (intOf i).toNat)
      case atStart => exact ⟨0, by omega, rfl, Below.refl _ _⟩
      case round =>
        obtain ⟨wo, rfl⟩ : ∃ wo : World, wo = wr := ⟨_, rfl⟩
        obtain ⟨j, hj, rfl, hbo⟩ := hrel
        have Hbo := Lib.hid hbo
        have hso := hbo.size
        by_cases hj3 : j < 3
        · obtain ⟨m0, m1⟩ := Hms.out j hj3
          have m0 := (hbo.cell (p := ⟨w3.heap.size, j * 2, none⟩) hs4).trans m0
          have m1 := (hbo.cell (p := ⟨w3.heap.size, j * 2 + 1, none⟩) hs4).trans m1
          generalize (ms3 a0 b0 x1 x2 j).1 = p at *
          generalize (ms3 a0 b0 x1 x2 j).2 = q at *
          have hj3' : (j : Int) < 3 := by omega
          have hj0 : (0 : Int) ≤ (j : Int) := by omega
          have hwj : IntKind.i64.wrap ((j : Int) + 1) = (j : Int) + 1 := IntWalk.i64_in _ (by omega)
          clear hbo
          go_upto_region 8 with fail
          obtain ⟨w5, hw5⟩ : ∃ w5 : World, w5 = wo.alloc (.cells #[.int .i64 p, .int .i64 q] 23) := ⟨_, rfl⟩
          rw [← hw5]
          have Hm16 : Hid (w5.heap[wo.heap.size]? = some (.cells #[.int .i64 p, .int .i64 q] 23 (0, 0))) := Lib.hid (by rw [hw5]; exact heap_alloc_new wo _)
          have hs5 : wo.heap.size < w5.heap.size := by rw [hw5]; simp
          have Hb5 : Hid (Below w4.heap.size w4 w5) := Lib.hid (by rw [hw5]; exact Hbo.out.alloc hso _)
          clear hw5 m0 m1
          go_upto_region 9 with (first
            | (go_at_call 7
               refine (HM1.out _).mono ?_
               rintro e w' ⟨rfl, rfl⟩)
            | fail)
          obtain ⟨w6, hw6⟩ : ∃ w6 : World, w6 = w5.alloc (.cells #[.int .i64 wd, .int .i64 (y - 1)] 3) := ⟨_, rfl⟩
          rw [← hw6]
          have hr6 : w6.heap[w5.heap.size]? = some (.cells #[.int .i64 wd, .int .i64 (y - 1)] 3 (0, 0)) := by rw [hw6]; exact heap_alloc_new w5 _
          have hs6 : w5.heap.size < w6.heap.size := by rw [hw6]; simp
          have Hb6 : Hid (Below w4.heap.size w4 w6) := Lib.hid (by rw [hw6]; exact Hb5.out.alloc Hb5.out.size _)
          have Hm166 : Hid (w6.heap[wo.heap.size]? = some (.cells #[.int .i64 p, .int .i64 q] 23 (0, 0))) := Lib.hid (by rw [hw6]; exact (Below.heap_alloc _ _ _ hs5).trans Hm16.out)
          have Hws : Hid (∀ k, k < 2 → w6.cell? ⟨w5.heap.size, k, none⟩ = some (.int .i64 (two wd (y - 1) k))) := Lib.hid (fun k hk => by
            rcases (show k = 0 ∨ k = 1 by omega) with rfl | rfl
            · exact cell_of_row w6 _ 0 _ _ _ hr6
            · exact cell_of_row w6 _ 1 _ _ _ hr6)
          clear hw6 hr6 Hm16 Hb5
          go_loopw [18, 20, 21, 22, 23, 24, 25, 26, 27, 28, 29, 30, 31, 32, 77] (fun _ _ _ _ _ _ _ _ _ _ _ _ _ _ i wr => ∃ k : Nat, k ≤ 2 ∧ i = .int .i64 (k : Int) ∧ Below w6.heap.size w6 wr) (fun _ _ _ _ _ _ _ _ _ _ _ _ _ _ i _ => 2 - (intOf i).toNat)
          case atStart => exact ⟨0, by omega, rfl, Below.refl _ _⟩
          case round =>
            obtain ⟨wp, rfl⟩ : ∃ wp : World, wp = wr := ⟨_, rfl⟩
            obtain ⟨k, hk, rfl, hbp⟩ := hrel
            have Hbp := Lib.hid hbp
            have hsp := hbp.size
            by_cases hk2 : k < 2
            · have v0 := (hbp.cell (p := ⟨w5.heap.size, k, none⟩) hs6).trans (Hws.out k hk2)
              have t16 := cell_of_row wp wo.heap.size 0 _ _ _ ((hbp.block _ (by omega)).trans Hm166.out)
              generalize two wd (y - 1) k = wv at *
              have hk2' : (k : Int) < 2 := by omega
              have hk0 : (0 : Int) ≤ (k : Int) := by omega
              have hwk : IntKind.i64.wrap ((k : Int) + 1) = (k : Int) + 1 := IntWalk.i64_in _ (by omega)
              clear hbp
              go_upto_region 11 with fail
              go_region_held3 (fun w' => w'.cell? ⟨wo.heap.size, 0, none⟩ = some (.int .i64 p))
                (first | go_keep)
                (first
                  | (go_at_call 7
                     refine (HM2.out _).mono ?_
                     rintro e w' ⟨rfl, rfl⟩)
                  | fail)
              go_upto_region 12 with fail
              obtain ⟨w7, hw7⟩ : ∃ w7 : World, w7 = (wp.alloc (.cells #[.int .i64 cl, .int .i64 z, .int .i64 p] 3)).drew := ⟨_, rfl⟩
              rw [← hw7]
              have hr7 : w7.heap[wp.heap.size]? = some (.cells #[.int .i64 cl, .int .i64 z, .int .i64 p] 3 (0, 0)) := by rw [hw7]; exact heap_alloc_new wp _
              have hs7 : wp.heap.size < w7.heap.size := by rw [hw7]; simp
              have Hb7 : Hid (Below w6.heap.size w6 w7) := Lib.hid (by rw [hw7]; exact (Hbp.out.alloc hsp _).drew)
              have Hm167 : Hid (w7.heap[wo.heap.size]? = some (.cells #[.int .i64 p, .int .i64 q] 23 (0, 0))) := Lib.hid ((Hb7.out.block _ (by omega)).trans Hm166.out)
              have Hcs : Hid (∀ k, k < 3 → w7.cell? ⟨wp.heap.size, k, none⟩ = some (.int .i64 (three cl z p k))) := Lib.hid (fun k hk => by
                rcases (show k = 0 ∨ k = 1 ∨ k = 2 by omega) with rfl | rfl | rfl
                · exact cell_of_row w7 _ 0 _ _ _ hr7
                · exact cell_of_row w7 _ 1 _ _ _ hr7
                · exact cell_of_row w7 _ 2 _ _ _ hr7)
              have hs6w : wo.heap.size < w7.heap.size := by omega
              clear hw7 hr7 t16 v0
              go_loopw [20, 21, 22, 23, 24, 25, 26, 27, 28, 29, 30, 31, 32, 88] (fun _ _ _ _ _ _ _ _ _ _ _ _ _ i wr => ∃ i' : Nat, i' ≤ 3 ∧ i = .int .i64 (i' : Int) ∧ Below w7.heap.size w7 wr) (fun _ _ _ _ _ _ _ _ _ _ _ _ _ i _ => 3 - (intOf i).toNat)
              case atStart => exact ⟨0, by omega, rfl, Below.refl _ _⟩
              case round =>
                obtain ⟨wq, rfl⟩ : ∃ wq : World, wq = wr := ⟨_, rfl⟩
                obtain ⟨i, hi, rfl, hbq⟩ := hrel
                have Hbq := Lib.hid hbq
                have hsq := hbq.size
                by_cases hi3 : i < 3
                · have v1 := (hbq.cell (p := ⟨wp.heap.size, i, none⟩) hs7).trans (Hcs.out i hi3)
                  have t0 := cell_of_row wq wo.heap.size 0 _ _ _ ((hbq.block _ hs6w).trans Hm167.out)
                  have t1 := cell_of_row wq wo.heap.size 1 _ _ _ ((hbq.block _ hs6w).trans Hm167.out)
                  have hsw : wo.heap.size < wq.heap.size := by omega
                  generalize three cl z p i = cv at *
                  have hi3' : (i : Int) < 3 := by omega
                  have hi0 : (0 : Int) ≤ (i : Int) := by omega
                  have hwi : IntKind.i64.wrap ((i : Int) + 1) = (i : Int) + 1 := IntWalk.i64_in _ (by omega)
                  have G1 := Lib.hid (fun W => marginT_any p q wv W)
                  have G2 := Lib.hid (fun W => margin08_any p q wv W)
                  have G3 := Lib.hid (fun W => acceptT_any cv p q wv W)
                  have G4 := Lib.hid (fun W => accept08_any cv p q wv W)
                  have G5 := Lib.hid (fun W => decideT_any cv p q wv W)
                  have G6 := Lib.hid (fun W => decide08_any cv p q wv W)
                  generalize marginV p q wv = o1 at *
                  generalize acceptV cv p q wv = o2 at *
                  generalize decideV cv p q wv = o3 at *
                  generalize checkT cv p q wv = e2 at *
                  generalize checkT 0 p q wv = e1 at *
                  clear hbq
                  go_wp2_with (first
                    | (go_at_call 8
                       refine (G1.out _).mono ?_
                       rintro e y1 ⟨rfl, hb⟩
                       have B1 : Hid (Below wq.heap.size wq y1) := Lib.hid hb
                       have t10 := (B1.out.cell (p := ⟨wo.heap.size, 0, none⟩) hsw).trans t0
                       have t11 := (B1.out.cell (p := ⟨wo.heap.size, 1, none⟩) hsw).trans t1
                       have sz1 := hb.size
                       clear hb)
                    | (go_at_call 9
                       refine (G2.out _).mono ?_
                       rintro e y2 ⟨rfl, hb⟩
                       have B2 : Hid (Below wq.heap.size wq y2) := Lib.hid (B1.out.trans (hb.mono sz1))
                       have t20 := (B2.out.cell (p := ⟨wo.heap.size, 0, none⟩) hsw).trans t0
                       have t21 := (B2.out.cell (p := ⟨wo.heap.size, 1, none⟩) hsw).trans t1
                       have sz2 := B2.out.size
                       clear hb)
                    | (go_at_call 10
                       refine (G3.out _).mono ?_
                       rintro e y3 ⟨rfl, hb⟩
                       have B3 : Hid (Below wq.heap.size wq y3) := Lib.hid (B2.out.trans (hb.mono sz2))
                       have t30 := (B3.out.cell (p := ⟨wo.heap.size, 0, none⟩) hsw).trans t0
                       have t31 := (B3.out.cell (p := ⟨wo.heap.size, 1, none⟩) hsw).trans t1
                       have sz3 := B3.out.size
                       clear hb)
                    | (go_at_call 11
                       refine (G4.out _).mono ?_
                       rintro e y4 ⟨rfl, hb⟩
                       have B4 : Hid (Below wq.heap.size wq y4) := Lib.hid (B3.out.trans (hb.mono sz3))
                       have t40 := (B4.out.cell (p := ⟨wo.heap.size, 0, none⟩) hsw).trans t0
                       have t41 := (B4.out.cell (p := ⟨wo.heap.size, 1, none⟩) hsw).trans t1
                       have sz4 := B4.out.size
                       clear hb)
                    | (go_at_call 12
                       refine (G5.out _).mono ?_
                       rintro e y5 ⟨rfl, hb⟩
                       have B5 : Hid (Below wq.heap.size wq y5) := Lib.hid (B4.out.trans (hb.mono sz4))
                       have t50 := (B5.out.cell (p := ⟨wo.heap.size, 0, none⟩) hsw).trans t0
                       have t51 := (B5.out.cell (p := ⟨wo.heap.size, 1, none⟩) hsw).trans t1
                       have sz5 := B5.out.size
                       clear hb)
                    | (go_at_call 13
                       refine (G6.out _).mono ?_
                       rintro e y6 ⟨rfl, hb⟩
                       have B6 : Hid (Below wq.heap.size wq y6) := Lib.hid (B5.out.trans (hb.mono sz5))
                       clear hb)
                    | fail)
                  go_roundw
                  case rel => exact ⟨i + 1, by omega, by go_num, Hbq.out.trans (B6.out.mono hsq)⟩
                  case measure => simp [intOf]; omega
                · have hi3' : ¬ (i : Int) < 3 := by omega
                  clear hbq
                  go_wp2
                  go_roundw
                  case rel => exact ⟨k + 1, by omega, by go_num, Hb7.out.trans (Hbq.out.mono (by have := Hb7.out.size; omega))⟩
                  case measure => simp [intOf]; omega
            · have hk2' : ¬ (k : Int) < 2 := by omega
              clear hbp
              go_wp2
              go_roundw
              case rel => exact ⟨j + 1, by omega, by go_num, Hb6.out.trans (Hbp.out.mono (by have := Hb6.out.size; omega))⟩
              case measure => simp [intOf]; omega
        · have hj3' : ¬ (j : Int) < 3 := by omega
          clear Hms HM1 HM2 hbo
          have Hbr4 : Hid (Below wa.heap.size wa wo) := Lib.hid (Hb4.out.trans (Hbo.out.mono (by have := Hb4.out.size; omega)))
          have HTo : Hid (TapeAt wo g r.tail.tail) := Lib.hid (HT4.out.below Hbo.out HT4.out.lt)
          have HBk := Lib.hid (broken_any g r.tail.tail 9 3 wo.drew HTo.out.drew (by omega) (by omega))
          obtain ⟨⟨rb, r3⟩, hp⟩ : ∃ p, mkBrk r.tail.tail 9 3 = p := ⟨_, rfl⟩
          rw [hp] at HBk
          have hrb92 : rb.length ≤ 92 := by have := brk_len3 r.tail.tail; rw [hp] at this; exact this
          have hso4 : wa.heap.size ≤ wo.heap.size := Hbr4.out.size
          have c10 := cell_of_row wo (w.heap.size + 1) 0 _ _ _ ((Hbr4.out.block _ (by omega)).trans Hm10.out)
          have hlo : w2.heap.size < wo.heap.size := by omega
          have Hmo : Hid (wo.heap[w2.heap.size]? = some (.cells #[.int .i64 x1, .int .i64 x2] 23 (0, 0))) := Lib.hid ((Hbo.out.block _ (by omega)).trans Hm14b.out)
          clear hp Hm14b Hb4 HT4
          go_upto_region 25 with fail
          go_region_held3 (fun w' => w'.cell? ⟨w.heap.size + 1, 0, none⟩ = some (.slice D1 ra.length k1))
            (first | go_keep)
            (first
              | (go_at_call 14
                 refine HBk.out.mono ?_
                 rintro e w8 ⟨v8, rfl, hown8, ht8, hg8d⟩
                 have hg8 : wo.grownBy w8 (some g) := only_trans (only_drew (World.grownBy.refl _ _)) hg8d
                 simp only at hown8
                 obtain ⟨D3, k3, rfl, hS3⟩ := SlR.of_own hown8
                 have HS3 := Lib.hid hS3
                 have Hb8 : Hid (Below wa.heap.size wa w8) := Lib.hid (below_only Hbr4.out hg8 hg hso4)
                 have Hm8b : Hid (w8.heap[w2.heap.size]? = some (.cells #[.int .i64 x1, .int .i64 x2] 23 (0, 0))) := Lib.hid ((hg8.block _ hlo (by intro e; injection e; omega)).trans Hmo.out)
                 have q10 := cell_of_row w8 (w.heap.size + 1) 0 _ _ _ ((Hb8.out.block _ (by omega)).trans Hm10.out)
                 have hs8 : wo.heap.size ≤ w8.heap.size := hg8.size
                 clear hown8 ht8 hg8 hg8d hS3)
              | fail)
          go_upto_region 26 with fail
          obtain ⟨w9, hw9⟩ : ∃ w9 : World, w9 = w8.alloc (.cells #[.slice D1 ra.length k1, .slice D3 rb.length k3] 27) := ⟨_, rfl⟩
          rw [← hw9]
          have hr9 : w9.heap[w8.heap.size]? = some (.cells #[.slice D1 ra.length k1, .slice D3 rb.length k3] 27 (0, 0)) := by rw [hw9]; exact heap_alloc_new w8 _
          have hs9 : w8.heap.size < w9.heap.size := by rw [hw9]; simp
          have Hb9 : Hid (Below wa.heap.size wa w9) := Lib.hid (by rw [hw9]; exact Hb8.out.alloc Hb8.out.size _)
          have Hm9 : Hid (w9.heap[w2.heap.size]? = some (.cells #[.int .i64 x1, .int .i64 x2] 23 (0, 0))) := Lib.hid (by rw [hw9]; exact (Below.heap_alloc w8 _ _ (by omega)).trans Hm8b.out)
          have Hrs : Hid (∀ j, j < 2 → ∃ (C : Option Addr) (p q : Nat) (l : List R4), w9.cell? ⟨w8.heap.size, j, none⟩ = some (.slice C p q) ∧ SlR w9 C p q l) := Lib.hid (by
            intro j hj
            rcases (show j = 0 ∨ j = 1 by omega) with rfl | rfl
            · exact ⟨D1, _, k1, ra, cell_of_row w9 _ 0 _ _ _ hr9, HAa.out.below Hb9.out⟩
            · have h3 := HS3.out.alloc (.cells #[.slice D1 ra.length k1, .slice D3 rb.length k3] 27)
              exact ⟨D3, _, k3, rb, cell_of_row w9 _ 1 _ _ _ hr9, by rw [hw9]; exact ⟨h3.len, h3.cap, h3.top, h3.lies⟩⟩)
          have hs9a : wa.heap.size ≤ w9.heap.size := Hb9.out.size
          clear hw9 hr9 HS3 Hb8 Hm8b q10 c10 HBk HTo Hbr4 Hbo Hmo
          go_loopw [34, 35, 36, 37, 38, 168] (fun _ _ _ _ _ i wr => ∃ j' : Nat, j' ≤ 2 ∧ i = .int .i64 (j' : Int) ∧ Below w9.heap.size w9 wr) (fun _ _ _ _ _ i _ => 2 - (intOf i).toNat)
          case atStart => exact ⟨0, by omega, rfl, Below.refl _ _⟩
          case round =>
            obtain ⟨wo2, rfl⟩ : ∃ wo : World, wo = wr := ⟨_, rfl⟩
            obtain ⟨j2, hj2, rfl, hbo2⟩ := hrel
            have Hbo2 := Lib.hid hbo2
            have hso2 := hbo2.size
            by_cases hj2' : j2 < 2
            · obtain ⟨C, p, q, l, hcell, hS⟩ := Hrs.out j2 hj2'
              have cm := (hbo2.cell (p := ⟨w8.heap.size, j2, none⟩) hs9).trans hcell
              have HS := Lib.hid (hS.below hbo2)
              have hj3i : (j2 : Int) < 2 := by omega
              have hj3z : (0 : Int) ≤ (j2 : Int) := by omega
              have hwj2 : IntKind.i64.wrap ((j2 : Int) + 1) = (j2 : Int) + 1 := IntWalk.i64_in _ (by omega)
              have HM1 := Lib.hid (fun W (hW : SlR W C p q l) => meaT_any C p q l W hW)
              have HM2 := Lib.hid (fun W (hW : SlR W C p q l) => meaR_any C p q l W hW)
              generalize (meaV l).2.1 = m2 at *
              generalize (meaV l).2.2 = m3 at *
              generalize (meaV l).1 = m1 at *
              clear hbo2 hcell hS Hrs
              go_upto_region 28 with fail
              obtain ⟨z1, hz1⟩ : ∃ z1 : World, z1 = wo2.alloc (.cells #[.slice C p q] 27) := ⟨_, rfl⟩
              rw [← hz1]
              have Hr1 : Hid (z1.heap[wo2.heap.size]? = some (.cells #[.slice C p q] 27 (0, 0))) := Lib.hid (by rw [hz1]; exact heap_alloc_new wo2 _)
              have hsz1 : wo2.heap.size < z1.heap.size := by rw [hz1]; simp
              have HS1 : Hid (SlR z1 C p q l) := Lib.hid (by rw [hz1]; exact HS.out.alloc _)
              have Hbz1 : Hid (Below w9.heap.size w9 z1) := Lib.hid (by rw [hz1]; exact Hbo2.out.alloc hso2 _)
              have cb := cell_of_row z1 wo2.heap.size 0 _ _ _ Hr1.out
              have hsb1 := Hbz1.out.size
              clear hz1 cm HS Hbo2
              go_upto_region 29 with (first
                | (go_at_call 15
                   refine (HM1.out _ HS1.out).mono ?_
                   rintro e y1 ⟨rfl, hb⟩
                   have B1 := Lib.hid hb
                   have sz1 := hb.size
                   clear hb)
                | fail)
              obtain ⟨z2, hz2⟩ : ∃ z2 : World, z2 = y1.alloc (.cells #[.int .i64 m1, .int .i64 m2] 23) := ⟨_, rfl⟩
              rw [← hz2]
              have Hr2 : Hid (z2.heap[y1.heap.size]? = some (.cells #[.int .i64 m1, .int .i64 m2] 23 (0, 0))) := Lib.hid (by rw [hz2]; exact heap_alloc_new y1 _)
              have hsz2 : y1.heap.size < z2.heap.size := by rw [hz2]; simp
              have B2 : Hid (Below z1.heap.size z1 z2) := Lib.hid (by rw [hz2]; exact B1.out.alloc sz1 _)
              have HS2 := Lib.hid (HS1.out.below B2.out)
              have cb2 := cell_of_row z2 wo2.heap.size 0 _ _ _ ((B2.out.block _ hsz1).trans Hr1.out)
              clear hz2 cb B1 HM1
              go_upto_region 30 with (first
                | (go_at_call 16
                   refine (HM2.out _ HS2.out).mono ?_
                   rintro e y2 ⟨rfl, hb⟩
                   have B3 := Lib.hid hb
                   have sz2 := hb.size
                   clear hb)
                | fail)
              obtain ⟨z3, hz3⟩ : ∃ z3 : World, z3 = y2.alloc (.cells #[.int .i64 m1, .int .i64 m2] 23) := ⟨_, rfl⟩
              rw [← hz3]
              have hr3 : z3.heap[y2.heap.size]? = some (.cells #[.int .i64 m1, .int .i64 m2] 23 (0, 0)) := by rw [hz3]; exact heap_alloc_new y2 _
              have B4 : Hid (Below z2.heap.size z2 z3) := Lib.hid (by rw [hz3]; exact B3.out.alloc sz2 _)
              have hr2 := (B4.out.block _ hsz2).trans Hr2.out
              have d0 := cell_of_row z3 y1.heap.size 0 _ _ _ hr2
              have d1 := cell_of_row z3 y1.heap.size 1 _ _ _ hr2
              have d2 := cell_of_row z3 y2.heap.size 0 _ _ _ hr3
              have d3 := cell_of_row z3 y2.heap.size 1 _ _ _ hr3
              have Hend : Hid (Below w9.heap.size w9 z3) := Lib.hid (Hbz1.out.trans ((B2.out.trans (B4.out.mono (by omega))).mono hsb1))
              clear hz3 hr3 hr2 cb2 B3 HM2 B4 B2 Hr2 Hr1
              go_wp2
              go_roundw
              case rel => exact ⟨j2 + 1, by omega, by go_num, Hend.out⟩
              case measure => simp [intOf]; omega
            · have hj3i : ¬ (j2 : Int) < 2 := by omega
              have Hwr : Hid (Below wa.heap.size wa wo2) := Lib.hid (Hb9.out.trans (hbo2.mono hs9a))
              have hra := (Hwr.out.block w.heap.size (by omega)).trans Hm8.out
              have hrm := (hbo2.block w2.heap.size (by omega)).trans Hm9.out
              have HLr := Lib.hid (HLa.out.below Hwr.out)
              have hswr := Hwr.out.size
              have e80 := cell_of_row wo2 w.heap.size 0 _ _ _ hra
              have e81 := cell_of_row wo2 w.heap.size 1 _ _ _ hra
              have e140 := cell_of_row wo2 w2.heap.size 0 _ _ _ hrm
              have e141 := cell_of_row wo2 w2.heap.size 1 _ _ _ hrm
              have hl8 : w.heap.size < wo2.heap.size := by omega
              have hl14 : w2.heap.size < wo2.heap.size := by omega
              clear hbo2 Hbo2 Hrs hra hrm
              go_upto_region 34 with fail
              obtain ⟨v0, hv0⟩ : ∃ v0 : World, v0 = ((wo2.alloc (.cells #[.int .i64 a0, .int .i64 b0, .int .i64 x1, .int .i64 x2] 23)).alloc (.cells #[.int .i64 x1, .int .i64 x2, .int .i64 x1, .int .i64 x2, .int .i64 x1, .int .i64 x2] 23)).alloc (.cells #[.slice L ln lc, .slice (some ⟨wo2.heap.size, 0, none⟩) 2 2, .slice (some ⟨wo2.heap.size + 1, 0, none⟩) 3 3] 24) := ⟨_, rfl⟩
              rw [← hv0]
              have hsv : v0.heap.size = wo2.heap.size + 3 := by rw [hv0]; simp
              have Hbv : Hid (Below wo2.heap.size wo2 v0) := Lib.hid (by rw [hv0]; exact (by repeat' (first | with_reducible exact Below.refl _ _ | with_reducible refine below_drewN ?_ _ | with_reducible refine Below.drew ?_ | with_reducible refine Below.alloc ?_ ?_ _ | with_reducible refine Below.setCell ?_ ?_ _ | with_reducible refine Below.trans ?_ (Below.mono (by with_reducible assumption) ?_) | (simp; done) | (simp; omega) | omega)))
              have hrv : v0.heap[wo2.heap.size + 2]? = some (.cells #[.slice L ln lc, .slice (some ⟨wo2.heap.size, 0, none⟩) 2 2, .slice (some ⟨wo2.heap.size + 1, 0, none⟩) 3 3] 24 (0, 0)) := by
                rw [hv0]
                have := heap_alloc_new ((wo2.alloc (.cells #[.int .i64 a0, .int .i64 b0, .int .i64 x1, .int .i64 x2] 23)).alloc (.cells #[.int .i64 x1, .int .i64 x2, .int .i64 x1, .int .i64 x2, .int .i64 x1, .int .i64 x2] 23)) (.cells #[.slice L ln lc, .slice (some ⟨wo2.heap.size, 0, none⟩) 2 2, .slice (some ⟨wo2.heap.size + 1, 0, none⟩) 3 3] 24)
                simpa using this
              have Hls : Hid (∀ j, j < 3 → ∃ (C : Option Addr) (p q : Nat) (l : List (Int × Int)), v0.cell? ⟨wo2.heap.size + 2, j, none⟩ = some (.slice C p q) ∧ SlM v0 C p q l) := Lib.hid (by
                intro j hj
                rcases (show j = 0 ∨ j = 1 ∨ j = 2 by omega) with rfl | rfl | rfl
                · exact ⟨L, ln, lc, lm, cell_of_row v0 _ 0 _ _ _ hrv, HLr.out.below Hbv.out⟩
                · refine ⟨some ⟨wo2.heap.size, 0, none⟩, 2, 2, [(a0, b0), (x1, x2)], cell_of_row v0 _ 1 _ _ _ hrv, rfl, Nat.le_refl _, by decide, ?_⟩
                  rw [hv0]
                  exact ((Lies.new wo2 23 #[.int .i64 a0, .int .i64 b0, .int .i64 x1, .int .i64 x2] 2 (mCells [(a0, b0), (x1, x2)]) rfl _ rfl).alloc _).alloc _
                · refine ⟨some ⟨wo2.heap.size + 1, 0, none⟩, 3, 3, [(x1, x2), (x1, x2), (x1, x2)], cell_of_row v0 _ 2 _ _ _ hrv, rfl, Nat.le_refl _, by decide, ?_⟩
                  rw [hv0]
                  exact (Lies.new (wo2.alloc (.cells #[.int .i64 a0, .int .i64 b0, .int .i64 x1, .int .i64 x2] 23)) 23 #[.int .i64 x1, .int .i64 x2, .int .i64 x1, .int .i64 x2, .int .i64 x1, .int .i64 x2] 3 (mCells [(x1, x2), (x1, x2), (x1, x2)]) rfl _ (by simp)).alloc _)
              have Hwv : Hid (Below wa.heap.size wa v0) := Lib.hid (Hwr.out.trans (Hbv.out.mono hswr))
              have hlv : wo2.heap.size + 2 < v0.heap.size := by omega
              have hsva := Hwv.out.size
              clear hv0 hrv HLr Hbv e80 e81 e140 e141 Hwr
              go_loopw [40, 41, 42, 43, 44, 201] (fun _ _ _ _ _ i wr => ∃ j' : Nat, j' ≤ 3 ∧ i = .int .i64 (j' : Int) ∧ Below v0.heap.size v0 wr) (fun _ _ _ _ _ i _ => 3 - (intOf i).toNat)
              case atStart => exact ⟨0, by omega, rfl, Below.refl _ _⟩
              case round =>
                obtain ⟨wo3, rfl⟩ : ∃ wo : World, wo = wr := ⟨_, rfl⟩
                obtain ⟨j3, hj3', rfl, hbo3⟩ := hrel
                have Hbo3 := Lib.hid hbo3
                have hso3 := hbo3.size
                by_cases hj33 : j3 < 3
                · obtain ⟨C, p, q, l, hcell, hS⟩ := Hls.out j3 hj33
                  have cm := (hbo3.cell (p := ⟨wo2.heap.size + 2, j3, none⟩) hlv).trans hcell
                  have HS := Lib.hid (hS.below hbo3)
                  have hj33i : (j3 : Int) < 3 := by omega
                  have hj33z : (0 : Int) ≤ (j3 : Int) := by omega
                  have hwj3 : IntKind.i64.wrap ((j3 : Int) + 1) = (j3 : Int) + 1 := IntWalk.i64_in _ (by omega)
                  have HM1 := Lib.hid (fun W (hW : SlM W C p q l) => sumT_any C p q l W hW)
                  have HM2 := Lib.hid (fun W (hW : SlM W C p q l) => sumR_any C p q l W hW)
                  unfold SumPost at HM1 HM2
                  generalize (sumV l).2.1 = m2 at *
                  generalize (sumV l).2.2 = m3 at *
                  generalize (sumV l).1 = m1 at *
                  clear hbo3 hcell hS Hls
                  go_upto_region 37 with (first
                    | (go_at_call 17
                       refine (HM1.out _ HS.out).mono ?_
                       rintro e y1 ⟨rfl, hb⟩
                       have B1 := Lib.hid hb
                       have sz1 := hb.size
                       clear hb)
                    | fail)
                  obtain ⟨z2, hz2⟩ : ∃ z2 : World, z2 = y1.alloc (.cells #[.int .i64 m1, .int .i64 m2] 23) := ⟨_, rfl⟩
                  rw [← hz2]
                  have Hr2 : Hid (z2.heap[y1.heap.size]? = some (.cells #[.int .i64 m1, .int .i64 m2] 23 (0, 0))) := Lib.hid (by rw [hz2]; exact heap_alloc_new y1 _)
                  have hsz2 : y1.heap.size < z2.heap.size := by rw [hz2]; simp
                  have B2 : Hid (Below wo3.heap.size wo3 z2) := Lib.hid (by rw [hz2]; exact B1.out.alloc sz1 _)
                  have HS2 := Lib.hid (HS.out.below B2.out)
                  clear hz2 B1 HM1
                  go_upto_region 38 with (first
                    | (go_at_call 18
                       refine (HM2.out _ HS2.out).mono ?_
                       rintro e y2 ⟨rfl, hb⟩
                       have B3 := Lib.hid hb
                       have sz2 := hb.size
                       clear hb)
                    | fail)
                  obtain ⟨z3, hz3⟩ : ∃ z3 : World, z3 = y2.alloc (.cells #[.int .i64 m1, .int .i64 m2] 23) := ⟨_, rfl⟩
                  rw [← hz3]
                  have hr3 : z3.heap[y2.heap.size]? = some (.cells #[.int .i64 m1, .int .i64 m2] 23 (0, 0)) := by rw [hz3]; exact heap_alloc_new y2 _
                  have B4 : Hid (Below z2.heap.size z2 z3) := Lib.hid (by rw [hz3]; exact B3.out.alloc sz2 _)
                  have hr2 := (B4.out.block _ hsz2).trans Hr2.out
                  have d0 := cell_of_row z3 y1.heap.size 0 _ _ _ hr2
                  have d1 := cell_of_row z3 y1.heap.size 1 _ _ _ hr2
                  have d2 := cell_of_row z3 y2.heap.size 0 _ _ _ hr3
                  have d3 := cell_of_row z3 y2.heap.size 1 _ _ _ hr3
                  have Hend : Hid (Below v0.heap.size v0 z3) := Lib.hid (Hbo3.out.trans ((B2.out.trans (B4.out.mono (by omega))).mono hso3))
                  clear hz3 hr3 hr2 B3 HM2 B4 B2 Hr2
                  go_wp2
                  go_roundw
                  case rel => exact ⟨j3 + 1, by omega, by go_num, Hend.out⟩
                  case measure => simp [intOf]; omega
                · have hj33i : ¬ (j3 : Int) < 3 := by omega
                  have Hwe : Hid (Below w.heap.size w wo3) := Lib.hid (Hba.out.trans ((Hwv.out.trans (hbo3.mono hsva)).mono (by omega)))
                  have hswe := Hwe.out.size
                  clear hbo3 Hbo3 Hls
                  go_wp2_with (first | (go_at_call 4; refine (awake8_any _).mono ?_; rintro e w99 ⟨rfl, hb1⟩; have Hb1 := Lib.hid hb1; clear hb1) | fail)
                  go_ret
                  exact ⟨rfl, Hwe.out.trans (Hb1.out.mono hswe)⟩
end Go.Proofs.YteehihmjbibebaaGreat
