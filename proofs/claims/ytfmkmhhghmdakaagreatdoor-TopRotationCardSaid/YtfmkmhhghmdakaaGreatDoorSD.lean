import Derived.Test.YtfmkmhhghmdakaaGreatDoorRA
import Derived.Test.YtfmkmhhghmdakaaGreatDoorRI
import Derived.Test.YtfmkmhhghmdakaaGreatDoorRN
import Derived.Test.YtfmkmhhghmdakaaGreatDoorSA
namespace Go.Proofs.YtfmkmhhghmdakaaGreatDoor
open Go.RowKit
set_option linter.unusedVariables false
set_option linter.unusedSimpArgs false
set_option maxHeartbeats 64000000
set_option maxRecDepth 100000
theorem check15_any (A : Option Addr) (n c : Nat) (l : RcL) (w : World) (hA : SlRc w A n c l) (hl : HyOk (rcs l)) :
    Calls Tryz.prog 38 #[.slice A n c] w fun e w' => e = .returned (.int .i64 0) ∧ Below w.heap.size w w' := by
  have hln := hA.len
  have hn60 : n ≤ 200 := by have := hl.len; rw [rcs_len] at this; omega
  have hn60' : ¬ (200 : Int) < (n : Int) := by omega
  have hcap := hA.cap
  have HA := Lib.hid hA
  have HL := Lib.hid hl
  have Hln := Lib.hid hln
  clear hA hl hln
  go_enter Tryz.func38, Tryz.ntmps38
  go_wp2
  go_loopw [3, 4, 14] (fun _ _ iv wr => ∃ i : Nat, i ≤ n ∧ iv = .int .i64 (i : Int) ∧ Below w.heap.size w wr) (fun _ _ iv _ => n - (intOf iv).toNat)
  case atStart => exact ⟨0, Nat.zero_le _, rfl, Below.refl _ _⟩
  case round =>
    obtain ⟨i, hi, rfl, hbw⟩ := hrel
    obtain ⟨wo, rfl⟩ : ∃ wo : World, wo = wr := ⟨_, rfl⟩
    have Hbw := Lib.hid hbw
    have hsw := hbw.size
    clear hbw
    by_cases hin : i < n
    · have hin' : (i : Int) < (n : Int) := by omega
      have hil : i < l.length := by rw [Hln.out]; exact hin
      obtain ⟨b, off, rfl, hbl, c0, c1, c2, hS⟩ := (HA.out.below Hbw.out).at i hil
      have hok := HL.out.ok l[i].1 (List.mem_map_of_mem (List.getElem_mem hil))
      obtain ⟨hyr, hcr, hrg, hne⟩ := hok
      have HV := Lib.hid (fun W (h : SlR W l[i].2.a l[i].1.rg.length l[i].2.c l[i].1.rg) => validR_any _ _ _ l[i].1.rg W h)
      rw [hrg] at HV
      have hup := fun (h0 : 0 < i) => HL.out.step (i - 1) i (by omega) hil
      have Hup := Lib.hid hup
      obtain ⟨x, hx⟩ : ∃ x, x = l[i] := ⟨_, rfl⟩
      rw [← hx] at c0 c1 c2 hS HV hyr hcr hne
      have Hx := Lib.hid hx
      have HS := Lib.hid hS
      clear hS hup hx hrg
      obtain ⟨nx, hnx⟩ : ∃ nx, x.1.rg.length = nx := ⟨_, rfl⟩
      rw [hnx] at c2 HV HS hne
      have n1 : ¬ x.1.yr < 0 := by omega
      have n2 : ¬ (100 : Int) < x.1.yr := by omega
      have n3 : ¬ x.1.cr < 0 := by omega
      have n4 : ¬ (40 : Int) ≤ x.1.cr := by omega
      have n5 : ¬ nx = 0 := by omega
      have n6 : ¬ (nx : Int) = 0 := by omega
      clear hnx
      go_upto_region 6 with fail
      obtain ⟨w1, hw1⟩ : ∃ w1 : World, w1 = wo.alloc (.cells #[.int .i64 x.1.yr, .int .i64 x.1.cr, .slice x.2.a nx x.2.c] 172) := ⟨_, rfl⟩
      rw [← hw1]
      have hr1 : w1.heap[wo.heap.size]? = some (.cells #[.int .i64 x.1.yr, .int .i64 x.1.cr, .slice x.2.a nx x.2.c] 172 (0, 0)) := by rw [hw1]; exact heap_alloc_new wo _
      have Hb1 : Hid (Below wo.heap.size wo w1) := Lib.hid (by rw [hw1]; exact gBel)
      have hs1 : wo.heap.size < w1.heap.size := by rw [hw1]; simp
      have Hr1 := Lib.hid hr1
      have HS1 := Lib.hid (HS.out.below Hb1.out)
      have d0 := cell_of_row _ _ 0 _ _ _ hr1
      have d1 := cell_of_row _ _ 1 _ _ _ hr1
      have d2 := cell_of_row _ _ 2 _ _ _ hr1
      clear hw1 hr1 c0 c1 c2
      go_upto_region 12 with (first
        | (go_at_call 120
           refine (HV.out _ HS1.out).mono ?_
           rintro e w2 ⟨rfl, hb2⟩
           have hr2 := (hb2.block _ hs1).trans Hr1.out
           have Hb2 := Lib.hid (Hb1.out.trans (hb2.mono (by omega)))
           have e0 := cell_of_row _ _ 0 _ _ _ hr2
           have e1 := cell_of_row _ _ 1 _ _ _ hr2
           have e2 := cell_of_row _ _ 2 _ _ _ hr2
           clear hb2 hr2 d0 d1 d2)
        | fail)
      have Hb3 := Lib.hid (Hbw.out.trans (Hb2.out.mono hsw))
      rcases Nat.eq_zero_or_pos i with h0 | h0
      · subst h0
        go_quiet (fail)
        go_wp2
        go_roundw
        case rel => exact ⟨1, by omega, by go_num, ⟨Hb3.out.os, Hb3.out.tape, Hb3.out.output, Hb3.out.size, Hb3.out.block⟩⟩
        case measure => simp [intOf]; omega
      · have h0' : (0 : Int) < (i : Int) := by omega
        obtain ⟨b', off', hbe, _, f0, f1, _⟩ := (HA.out.below Hb3.out).at (i - 1) (by omega)
        injection hbe with hbe
        injection hbe with hb1 hb2
        subst hb1 hb2
        have hlt := Hup.out h0
        rw [← Hx.out] at hlt
        obtain ⟨y, hy⟩ : ∃ y, y = (l[i - 1]'(by omega)).1.yr := ⟨_, rfl⟩
        obtain ⟨z, hz⟩ : ∃ z, z = (l[i - 1]'(by omega)).1.cr := ⟨_, rfl⟩
        unfold rcLt at hlt
        rw [← hy, ← hz] at hlt
        rw [← hy] at f0
        rw [← hz] at f1
        obtain ⟨j, hj⟩ : ∃ j : Nat, j = i - 1 := ⟨_, rfl⟩
        rw [← hj] at f0 f1
        have hwr : IntKind.i64.wrap ((i : Int) - 1) = (j : Int) := by rw [IntWalk.i64_in _ (by omega)]; omega
        have hj1 : j < n := by omega
        have hj2 : (j : Int) < (n : Int) := by omega
        have hj0 : (0 : Int) ≤ (j : Int) := by omega
        clear hy hz hj
        have hy1 : ¬ x.1.yr < y := by omega
        by_cases hye : x.1.yr = y
        · have hyq : (x.1.yr == y) = true := by simp [hye]
          have hzc : ¬ x.1.cr ≤ z := by omega
          have hHye := Lib.hid hye
          clear hye hlt
          go_quiet (fail)
          go_wp2
          go_roundw
          case rel => exact ⟨i + 1, by omega, by go_num, ⟨Hb3.out.os, Hb3.out.tape, Hb3.out.output, Hb3.out.size, Hb3.out.block⟩⟩
          case measure => simp [intOf]; omega
        · have hyq : (x.1.yr == y) = false := by simp [hye]
          clear hlt
          go_quiet (fail)
          go_wp2
          go_roundw
          case rel => exact ⟨i + 1, by omega, by go_num, ⟨Hb3.out.os, Hb3.out.tape, Hb3.out.output, Hb3.out.size, Hb3.out.block⟩⟩
          case measure => simp [intOf]; omega
    · have hin' : ¬ (i : Int) < (n : Int) := by omega
      go_upto_region 16 with fail
      go_loopw [5, 6, 8, 87] (fun _ _ _ iv wr => ∃ i : Nat, i ≤ n ∧ iv = .int .i64 (i : Int) ∧ Below w.heap.size w wr) (fun _ _ _ iv _ => n - (intOf iv).toNat)
      case atStart => exact ⟨0, Nat.zero_le _, rfl, Hbw.out⟩
      case round =>
        clear hin hin' hi
        obtain ⟨i, hi, rfl, hbw⟩ := hrel
        obtain ⟨wp, rfl⟩ : ∃ wp : World, wp = wr := ⟨_, rfl⟩
        have Hbp := Lib.hid hbw
        have hsp := hbw.size
        clear hbw
        by_cases hin : i < n
        · have hin' : (i : Int) < (n : Int) := by omega
          have hil : i < l.length := by rw [Hln.out]; exact hin
          obtain ⟨b, off, rfl, hbl, c0, c1, c2, hS⟩ := (HA.out.below Hbp.out).at i hil
          obtain ⟨x, hx⟩ : ∃ x, x = l[i] := ⟨_, rfl⟩
          rw [← hx] at c0 c1 c2 hS
          have Hx := Lib.hid hx
          have HS := Lib.hid hS
          clear hS hx
          go_upto_region 18 with fail
          obtain ⟨w1, hw1⟩ : ∃ w1 : World, w1 = wp.alloc (.cells #[.int .i64 x.1.yr, .int .i64 x.1.cr, .slice x.2.a x.1.rg.length x.2.c] 172) := ⟨_, rfl⟩
          rw [← hw1]
          obtain ⟨X, hX⟩ : ∃ X, X = wp.heap.size := ⟨_, rfl⟩
          have Hr1 : Hid (w1.heap[X]? = some (.cells #[.int .i64 x.1.yr, .int .i64 x.1.cr, .slice x.2.a x.1.rg.length x.2.c] 172 (0, 0))) := Lib.hid (by rw [hw1, hX]; exact heap_alloc_new wp _)
          have Hb1 : Hid (Below wp.heap.size wp w1) := Lib.hid (by rw [hw1]; exact gBel)
          have hs1 : X < w1.heap.size := by rw [hw1, hX]; simp
          have HS1 := Lib.hid (HS.out.below Hb1.out)
          have Hbw1 := Lib.hid (Hbp.out.trans (Hb1.out.mono hsp))
          have hsw1 : w.heap.size ≤ w1.heap.size := Hbw1.out.size
          have hic : (i : Int) ≤ (c : Int) := by omega
          have hin2 : (i : Int) ≤ (n : Int) := by omega
          have hi0 : (0 : Int) ≤ (i : Int) := by omega
          rw [← hX]
          clear hw1 hX c0 c1 c2 HS
          go_upto_region 19 with fail
          go_loopw [8, 96] (fun _ jv wr => ∃ j : Nat, j ≤ i ∧ jv = .int .i64 (j : Int) ∧ Below w1.heap.size w1 wr) (fun _ jv _ => i - (intOf jv).toNat)
          case atStart => exact ⟨0, Nat.zero_le _, rfl, Below.refl _ _⟩
          case round =>
            obtain ⟨j, hj, rfl, hbj⟩ := hrel
            obtain ⟨wq, rfl⟩ : ∃ wq : World, wq = wr := ⟨_, rfl⟩
            have Hbj := Lib.hid hbj
            have hsj := hbj.size
            clear hbj
            by_cases hji : j < i
            · have hji' : (j : Int) < (i : Int) := by omega
              have hjl : j < l.length := by omega
              have hap := HL.out.apart j i hji hil
              obtain ⟨b', off', hbe, _, f0, f1, f2, hSy⟩ := (HA.out.below (Hbw1.out.trans (Hbj.out.mono hsw1))).at j hjl
              injection hbe with hbe
              injection hbe with hb1 hb2
              subst hb1 hb2
              rw [← Hx.out] at hap
              obtain ⟨y, hy⟩ : ∃ y, y = l[j] := ⟨_, rfl⟩
              rw [← hy] at f0 f1 f2 hSy hap
              have HSy := Lib.hid hSy
              have Hap := Lib.hid hap
              clear hSy hap hy
              go_upto_region 21 with fail
              obtain ⟨w2, hw2⟩ : ∃ w2 : World, w2 = wq.alloc (.cells #[.int .i64 y.1.yr, .int .i64 y.1.cr, .slice y.2.a y.1.rg.length y.2.c] 172) := ⟨_, rfl⟩
              rw [← hw2]
              have hr2 : w2.heap[wq.heap.size]? = some (.cells #[.int .i64 y.1.yr, .int .i64 y.1.cr, .slice y.2.a y.1.rg.length y.2.c] 172 (0, 0)) := by rw [hw2]; exact heap_alloc_new wq _
              have Hb2 : Hid (Below wq.heap.size wq w2) := Lib.hid (by rw [hw2]; exact gBel)
              have Hbj2 := Lib.hid (Hbj.out.trans (Hb2.out.mono hsj))
              have hrX := (Hbj2.out.block X hs1).trans Hr1.out
              have d0 := cell_of_row _ _ 0 _ _ _ hr2
              have d2 := cell_of_row _ _ 2 _ _ _ hr2
              have x0 := cell_of_row _ _ 0 _ _ _ hrX
              have x2 := cell_of_row _ _ 2 _ _ _ hrX
              have HSy2 := Lib.hid (HSy.out.below Hb2.out)
              have HSx2 := Lib.hid (HS1.out.below Hbj2.out)
              clear hw2 hr2 hrX f0 f1 f2
              by_cases hye : y.1.yr = x.1.yr
              · have hyq : (y.1.yr == x.1.yr) = true := by simp [hye]
                have HM := Lib.hid (fun W (h1 : SlR W y.2.a y.1.rg.length y.2.c y.1.rg) (h2 : SlR W x.2.a x.1.rg.length x.2.c x.1.rg) => meetsR_any _ _ _ _ _ _ y.1.rg x.1.rg W h1 h2)
                rw [Hap.out hye] at HM
                have Hye := Lib.hid hye
                clear hye
                go_wp2_with (first
                  | (go_at_call 121
                     refine (HM.out _ HSy2.out HSx2.out).mono ?_
                     rintro e w3 ⟨rfl, hb3⟩
                     have Hb3 := Lib.hid (Hbj2.out.trans (hb3.mono Hbj2.out.size))
                     clear hb3)
                  | fail)
                go_roundw
                case rel => exact ⟨j + 1, by omega, by go_num, Hb3.out⟩
                case measure => simp [intOf]; omega
              · have hyq : (y.1.yr == x.1.yr) = false := by simp [hye]
                go_wp2
                go_roundw
                case rel => exact ⟨j + 1, by omega, by go_num, Hbj2.out⟩
                case measure => simp [intOf]; omega
            · have hji' : ¬ (j : Int) < (i : Int) := by omega
              go_wp2
              go_roundw
              case rel => exact ⟨i + 1, by omega, by go_num, Hbw1.out.trans (Hbj.out.mono hsw1)⟩
              case measure => simp [intOf]; omega
        · have hin' : ¬ (i : Int) < (n : Int) := by omega
          go_wp2
          go_ret
          exact ⟨rfl, Hbp.out⟩
end Go.Proofs.YtfmkmhhghmdakaaGreatDoor
