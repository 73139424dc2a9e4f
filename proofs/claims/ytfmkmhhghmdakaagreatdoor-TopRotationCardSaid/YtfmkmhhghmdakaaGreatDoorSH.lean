import Derived.ProofKit
import Derived.Test.YtfmkmhhghmdakaaGreatDoorRA
import Derived.Test.YtfmkmhhghmdakaaGreatDoorRH
import Derived.Test.YtfmkmhhghmdakaaGreatDoorSC
import Derived.Test.YtfmkmhhghmdakaaGreatDoorSD
import Derived.Test.YtfmkmhhghmdakaaGreatDoorSG
namespace Go.Proofs.YtfmkmhhghmdakaaGreatDoor
open Go.RowKit Go.Shelf
set_option linter.unusedVariables false
set_option linter.unusedSimpArgs false
set_option maxHeartbeats 64000000
set_option maxRecDepth 100000
theorem rotationLaw (A : Option Addr) (n c : Nat) (zs : List Int) (wz : Int) (w : World) (hn : zs.length = n) (hc : n ≤ c) (hm : c ≤ maxLen) (hw : ∀ z ∈ zs, (Lit.int .i64 z).wf = true) (hA : Lies w A n (zs.map (.int .i64))) (hwz : 0 ≤ wz ∧ wz ≤ 255) :
    Calls Tryz.prog 6 #[.slice A n c, .int .u8 wz] w fun e w' => e = .returned (.bool true) ∧ Below w.heap.size w w' := by
  have hdd : 0 ≤ wz.tmod 3 ∧ wz.tmod 3 ≤ 2 := ⟨Int.tmod_nonneg _ hwz.1, by have := Int.tmod_lt_of_pos wz (show (0 : Int) < 3 by omega); omega⟩
  have hv1 : IntKind.i64.wrap wz = wz := IntWalk.i64_in _ (by omega)
  obtain ⟨dd, hd⟩ : ∃ dd, wz.tmod 3 = dd := ⟨_, rfl⟩
  rw [hd] at hdd
  obtain ⟨t, ht⟩ : ∃ t, 2 + dd = t := ⟨_, rfl⟩
  have ht24 : 2 ≤ t ∧ t ≤ 4 := by omega
  have htw : IntKind.i64.wrap t = t := IntWalk.i64_in _ (by omega)
  have ht5 : IntKind.i64.wrap (5 - t) = 5 - t := IntWalk.i64_in _ (by omega)
  obtain ⟨N, hN⟩ : ∃ N : Nat, t = (N : Int) + 1 := ⟨(t - 1).toNat, by omega⟩
  have hN13 : 1 ≤ N ∧ N ≤ 3 := by omega
  have HNt := Lib.hid hN
  have Hd := Lib.hid hd
  have Ht := Lib.hid ht
  have Hv1 := Lib.hid hv1
  clear hd ht hv1 hN
  have HN := Lib.hid (new_any A n c zs w hn hc hm hw hA)
  clear hn hc hm hw hA
  go_enter Tryz.func6, Tryz.ntmps6
  go_wp2_with fail
  refine HN.out.mono ?_
  rintro e w1 ⟨g, rfl, hwg, ht1, hb1⟩
  have Ht1 := Lib.hid ht1
  have Hb1 := Lib.hid hb1
  have hg1 := ht1.lt
  have hs1 := hb1.size
  clear ht1 hb1 HN
  go_wp2_with fail
  refine (crops_any g _ w1 Ht1.out).mono ?_
  rintro e w2 ⟨l0, C, cc, r2, rfl, hcr, ht2, hg2, hl38, hbd⟩
  obtain ⟨K, hK⟩ : ∃ K, K = cpK 0 l0 := ⟨_, rfl⟩
  have HKok : Hid (cropsB K) := Lib.hid (by rw [hK]; exact cpK_ok l0 hl38.2 hbd)
  have HKl : Hid (K.length = l0.length) := Lib.hid (by rw [hK]; exact cpK_len l0 0)
  have HCr : Hid (∀ W, World.ownsRow W w1.heap.size 91 3 (.slice C l0.length cc) l0.length (cpCells l0) → SlC W C l0.length cc K) := Lib.hid (fun W h => by rw [hK]; exact SlC.ofOwn h hl38.2)
  have Hcr2 := Lib.hid hcr
  have Ht2 := Lib.hid ht2
  have Hg2 := Lib.hid hg2
  clear hcr ht2 hg2 hbd hK
  generalize cpCells l0 = cs at *
  generalize l0.length = k at *
  go_upto_region 5 with fail
  go_loopw [7, 8, 9, 10, 11, 13, 14, 15, 55] (fun hv yv _ _ _ _ _ _ _ wr => ∃ (l : RcL) (y : Nat) (r : List Int), yv = .int .i64 (y : Int) ∧ y ≤ 4 ∧ l.length ≤ 2 * y ∧ RcOwn wr w1.heap.size hv l ∧ HyW (k : Int) (rcs l) ∧ (∀ x ∈ rcs l, x.yr < (y : Int)) ∧ wr.ownsRow w1.heap.size 91 3 (.slice C k cc) k cs ∧ TapeAt wr g r ∧ w1.grownBy wr (some g)) (fun _ yv _ _ _ _ _ _ _ _ => 4 - (intOf yv).toNat)
  case atStart => exact ⟨[], 0, r2, rfl, by omega, by simp, RcOwn.nil _ _, HyW.nil _, fun x hx => (by simp [rcs] at hx), Hcr2.out, Ht2.out, Hg2.out⟩
  case round =>
    clear Hcr2 Ht2 Hg2
    obtain ⟨l, y, r1, rfl, hy4, hly, hh, hhy, hyl, hcr, htr, hgr⟩ := hrel
    obtain ⟨wo, rfl⟩ : ∃ wo : World, wo = wr := ⟨_, rfl⟩
    have Hh := Lib.hid hh
    have Hhy := Lib.hid hhy
    have Hyl := Lib.hid hyl
    have Hcr := Lib.hid hcr
    have Htr := Lib.hid htr
    have Hgr := Lib.hid hgr
    have hso : w1.heap.size ≤ wo.heap.size := hgr.size
    obtain ⟨D, d, rfl, _, _, _⟩ := own_slice hh.o
    clear hh hhy hyl hcr htr hgr
    have hli := lines_any g r1 C k cc 2 wo Htr.out (by omega) (by omega)
    rw [show ((2 : Nat) : Int) = 2 from rfl] at hli
    have HLi := Lib.hid hli
    clear hli
    by_cases hyn : y < 4
    · have hyn' : (y : Int) < 4 := by omega
      go_upto_region 8 with (first
        | (go_at_call 8
           refine HLi.out.mono ?_
           rintro e w3 ⟨L, LA, lc, R, NA, kc, RA, rc, r3, kk, rfl, hLo, hNo, hRo, ht3, hg3, hpc, hR1, hls, hkk⟩
           obtain ⟨B, hB, hLq⟩ := lines_q hpc hls hkk
           have HLq := Lib.hid hLq
           have HSL := Lib.hid hLo.sll
           have Hh3 := Lib.hid (Hh.out.only hg3 hg1)
           have Hcr3 := Lib.hid (ownsRow_only Hcr.out hg3 hg1)
           have Ht3 := Lib.hid ht3
           have Hg3 := Lib.hid (only_trans Hgr.out hg3)
           have hs3 : w1.heap.size ≤ w3.heap.size := Hg3.out.size
           clear hLo hNo hRo ht3 hg3 hpc hR1 hls hkk hLq)
        | fail)
      clear Hh Hcr Htr Hgr HLi
      go_upto_region 9 with fail
      have hnL := HLq.out.len
      obtain ⟨nL, hnl⟩ : ∃ nL, L.length = nL := ⟨_, rfl⟩
      have Hnl := Lib.hid hnl
      rw [hnl] at hnL HSL ⊢
      clear hnl
      obtain ⟨nl, hnl0⟩ : ∃ nl, l.length = nl := ⟨_, rfl⟩
      have Hnl0 := Lib.hid hnl0
      rw [hnl0] at hly ⊢
      clear hnl0
      go_loopw [7, 13, 14, 15, 55] (fun hv _ _ _ iv wr => ∃ (l2 : RcL) (j : Nat), iv = .int .i64 (j : Int) ∧ j ≤ nL ∧ l2.length ≤ 2 * y + j ∧ RcOwn wr w1.heap.size hv l2 ∧ HyW (k : Int) (rcs l2) ∧ (∀ x ∈ rcs l2, x.yr ≤ (y : Int)) ∧ (∀ x ∈ rcs l2, x.yr = (y : Int) → InB B x.rg ∧ ∀ p q, inL x.rg p q = true → ∃ (i : Nat) (h : i < L.length), i < j ∧ inL L[i].1.rg p q = true) ∧ Below w3.heap.size w3 wr) (fun _ _ _ _ iv _ => nL - (intOf iv).toNat)
      case atStart => exact ⟨l, 0, rfl, Nat.zero_le _, by have := Hnl0.out; omega, by have h := Hh3.out; rw [Hnl0.out] at h; exact h, Hhy.out, fun x hx => Int.le_of_lt (Hyl.out x hx), fun x hx e => absurd e (by have := Hyl.out x hx; omega), Below.refl _ _⟩
      case round =>
        clear Hhy Hyl
        obtain ⟨l2, j, rfl, hj, hl2, hh, hhy, hyl, hyb, hbw⟩ := hrel
        obtain ⟨wi, rfl⟩ : ∃ wi : World, wi = wr := ⟨_, rfl⟩
        have Hh := Lib.hid hh
        have Hhy := Lib.hid hhy
        have Hyl := Lib.hid hyl
        have Hyb := Lib.hid hyb
        have Hbw := Lib.hid hbw
        have hsi := hbw.size
        obtain ⟨D2, d2, rfl, _, _, _⟩ := own_slice hh.o
        clear hh hhy hyl hyb hbw
        by_cases hjn : j < nL
        · have hjn' : (j : Int) < (nL : Int) := by omega
          have hjl : j < L.length := by rw [Hnl.out]; exact hjn
          obtain ⟨b, off, rfl, hbl, c0, c1, c2, c3, hS⟩ := (HSL.out.below Hbw.out).at j hjl
          have Hrg := Lib.hid (HLq.out.rg L[j] (List.getElem_mem hjl))
          have Hne := Lib.hid (HLq.out.ne L[j] (List.getElem_mem hjl))
          have hcr2 := HLq.out.cr L[j] (List.getElem_mem hjl)
          have Hdis := Lib.hid (fun i (hi : i < L.length) (hij : i < j) u v h => HLq.out.apart i j hi hjl (by omega) u v h)
          have Hin : Hid (∀ p q, inL L[j].1.rg p q = true → ∃ (i : Nat) (h : i < L.length), i < j + 1 ∧ inL L[i].1.rg p q = true) := Lib.hid (fun p q h => ⟨j, hjl, by omega, h⟩)
          have HB := Lib.hid hB
          obtain ⟨x, hx⟩ : ∃ x, x = L[j] := ⟨_, rfl⟩
          rw [← hx] at c0 c1 c2 c3 hS Hrg Hne hcr2 Hin
          simp only [← hx] at Hdis
          have HS := Lib.hid hS
          clear hS hx
          obtain ⟨n2, hn2⟩ : ∃ n2, l2.length = n2 := ⟨_, rfl⟩
          have Hn2 := Lib.hid hn2
          rw [hn2] at hl2 ⊢
          clear hn2
          go_upto_region 11 with fail
          obtain ⟨wa, hwa⟩ : ∃ wa : World, wa = wi.alloc (.cells #[.int .i64 x.1.pc, .slice x.2.a x.1.rg.length x.2.c, .int .i64 x.1.cr, .int .i64 x.1.sch] 35) := ⟨_, rfl⟩
          rw [← hwa]
          have hra : wa.heap[wi.heap.size]? = some (.cells #[.int .i64 x.1.pc, .slice x.2.a x.1.rg.length x.2.c, .int .i64 x.1.cr, .int .i64 x.1.sch] 35 (0, 0)) := by rw [hwa]; exact heap_alloc_new wi _
          have Hba : Hid (Below wi.heap.size wi wa) := Lib.hid (by rw [hwa]; exact gBel)
          have a1 := cell_of_row _ _ 1 _ _ _ hra
          have a2 := cell_of_row _ _ 2 _ _ _ hra
          have hsia : wi.heap.size ≤ wa.heap.size := Hba.out.size
          clear hwa hra c0 c1 c2 c3
          have hh2 := Hh.out.below Hba.out
          have HAd := Lib.hid (addHist_any D2 n2 d2 l2 y x.1.cr x.2 x.1.rg (k : Int) B wa (by have h := hh2.sl; rw [Hn2.out] at h; exact h) Hhy.out (by omega) (by omega) hcr2 (by omega) HB.out Hrg.out Hne.out (fun z hz e => (Hyb.out z hz e).1) (fun z hz e p q hpq => by
            obtain ⟨i, hi, hij, h1⟩ := (Hyb.out z hz e).2 p q hpq.1
            have := Hdis.out i hi hij p q h1
            rw [this] at hpq; cases hpq.2) (HS.out.below Hba.out))
          clear hh2
          go_upto_region 12 with (first
            | (go_at_call 37
               refine HAd.out.mono ?_
               rintro e w5 ⟨m, v5, rfl, hm, hmy, hml, hmb, hmo, hms, hb5⟩
               obtain ⟨D5, d5, rfl, _, _, _⟩ := own_slice hm.o
               have Hm := Lib.hid (hm.rebase (base' := w1.heap.size) (by omega))
               have HmS := Lib.hid hm.sl
               have Hmy := Lib.hid hmy
               have Hml := Lib.hid hml
               have Hmb := Lib.hid hmb
               have Hmo := Lib.hid hmo
               have Hms := Lib.hid hms
               have Hb5 := Lib.hid (Hba.out.trans (hb5.mono hsia))
               clear hm hmy hml hmb hmo hms hb5)
            | fail)
          go_wp2_with (first
            | (go_at_call 38
               refine (check15_any _ _ _ m _ HmS.out Hmy.out.hy).mono ?_
               rintro e w6 ⟨rfl, hb6⟩
               have Hm6 := Lib.hid (Hm.out.below hb6)
               have Hb6 := Lib.hid (Hb5.out.trans (hb6.mono Hb5.out.size))
               clear hb6)
            | fail)
          go_roundw
          case rel =>
            refine ⟨m, j + 1, by go_num, by omega, by have := Hml.out; have := Hn2.out; omega, Hm6.out, Hmy.out, fun z hz => ?_, fun z hz e => ⟨Hmb.out z hz e, fun p q hpq => ?_⟩, Hbw.out.trans (Hb6.out.mono hsi)⟩
            · rcases Hmo.out z hz with h1 | ⟨z', hz', h1⟩
              · omega
              · have := Hyl.out z' hz'; omega
            · rcases Hms.out z hz e p q hpq with h1 | ⟨z', hz', h1, h2⟩
              · exact Hin.out p q h1
              · obtain ⟨i, hi, hij, h3⟩ := (Hyb.out z' hz' h1).2 p q h2
                exact ⟨i, hi, by omega, h3⟩
          case measure => simp [intOf]; omega
        · have hjn' : ¬ (j : Int) < (nL : Int) := by omega
          go_wp2
          go_roundw
          case rel => exact ⟨l2, y + 1, r3, by go_num, by omega, by omega, Hh.out, Hhy.out, fun x hx => by have := Hyl.out x hx; omega, ownsRow_below Hcr3.out Hbw.out, Ht3.out.below Hbw.out Ht3.out.lt, only_below Hg3.out Hbw.out hs3⟩
          case measure => simp [intOf]; omega
    · have hyn' : ¬ (y : Int) < 4 := by omega
      clear Hyl hyn
      have hd := Hd.out
      have ht := Ht.out
      have hv1 := Hv1.out
      go_upto_region 17 with fail
      clear hd ht hv1
      go_upto_region 18 with (first
        | (go_at_call 8
           refine HLi.out.mono ?_
           rintro e w3 ⟨L, LA, lc, R, NA, kc, RA, rc, r3, kk, rfl, hLo, hNo, hRo, ht3, hg3, hpc, hR1, hls, hkk⟩
           obtain ⟨B, hB, hLq⟩ := lines_q hpc hls hkk
           have HLq := Lib.hid hLq
           have HB := Lib.hid hB
           have HSL := Lib.hid hLo.sll
           have Hh3 := Lib.hid (Hh.out.only hg3 hg1)
           have Hcr3 := Lib.hid (HCr.out _ (ownsRow_only Hcr.out hg3 hg1))
           have Hg3 := Lib.hid (only_trans Hgr.out hg3)
           clear hLo hNo hRo ht3 hg3 hpc hR1 hls hkk hLq hB)
        | fail)
      have Hb13 : Hid (Below w.heap.size w w3) := Lib.hid (below_only Hb1.out Hg3.out hwg hs1)
      have hs13 := Hb13.out.size
      have hnL := HLq.out.len
      obtain ⟨nL, hnl⟩ : ∃ nL, L.length = nL := ⟨_, rfl⟩
      have Hnl := Lib.hid hnl
      rw [hnl] at hnL HSL ⊢
      clear hnl Hh Hcr Htr Hgr HLi
      obtain ⟨nl, hnl0⟩ : ∃ nl, l.length = nl := ⟨_, rfl⟩
      have HSh := Lib.hid (show SlRc w3 D nl d l from by have h := Hh3.out.sl; rw [hnl0] at h; exact h)
      rw [hnl0] at hly ⊢
      clear hnl0 Hh3
      have HRp := Lib.hid (repeats_any LA nL lc L C k cc K D nl d l N t B w3 HSL.out (HLq.out.r HB.out) HB.out HLq.out.rg Hcr3.out HKok.out (by omega) HSh.out (by omega) Hhy.out hN13 HNt.out)
      have HRC := Lib.hid (fun i (hi : i < L.length) W (h : Below w3.heap.size w3 W) => rotCalls D nl d l C k cc K N t L B L[i] W (HSh.out.below h) Hhy.out (by omega) (by omega) (Hcr3.out.below h) HKok.out hN13 HNt.out HB.out HLq.out (List.getElem_mem hi) ((HSL.out.below h).fits _ (List.getElem_mem hi)))
      generalize canonP (repP (famK K) (lns (arL K L)) (rcs l) (4 - (N : Int)) (N - 1)) = rp at *
      go_upto_region 21 with (first
        | (go_at_call 39
           refine HRp.out.mono ?_
           rintro e w4 ⟨v4, rfl, hown4, hb4⟩
           obtain ⟨A4, c4, rfl, h4⟩ := SlR.of_own hown4
           have HS4 : Hid (SlR w4 A4 rp.length c4 rp) := Lib.hid h4
           have Hb4 := Lib.hid hb4
           clear hown4 hb4 h4)
        | fail)
      obtain ⟨w5, hw5⟩ : ∃ w5 : World, w5 = w4.alloc (.cells #[.slice A4 rp.length c4] 33) := ⟨_, rfl⟩
      try dsimp only
      rw [← hw5]
      have HL4 : Hid (RBs w4 []) := Lib.hid (fun x hx => by cases hx)
      have HL5 := Lib.hid (HL4.out.push A4 rp.length c4 rp HS4.out)
      rw [← hw5] at HL5
      have Hc5 : Hid (Below w3.heap.size w3 w5) := Lib.hid (by rw [hw5]; exact Hb4.out.alloc Hb4.out.size _)
      have hs5 := Hc5.out.size
      clear hw5 HL4 HS4 Hb4 HRp
      go_upto_region 22 with fail
      go_loopw [23, 24, 25, 26, 27, 28, 29, 30, 31, 32, 33, 34, 35, 36, 37, 101] (fun _ _ _ _ _ _ _ _ _ _ _ _ _ _ _ iv wr => ∃ i : Nat, i ≤ nL ∧ iv = .int .i64 (i : Int) ∧ Below w5.heap.size w5 wr) (fun _ _ _ _ _ _ _ _ _ _ _ _ _ _ _ iv _ => nL - (intOf iv).toNat)
      case atStart => exact ⟨0, Nat.zero_le _, rfl, Below.refl _ _⟩
      case round =>
        obtain ⟨i, hi, rfl, hbw⟩ := hrel
        obtain ⟨wi, rfl⟩ : ∃ wi : World, wi = wr := ⟨_, rfl⟩
        have Hbw := Lib.hid hbw
        have hsi := hbw.size
        clear hbw
        by_cases hin : i < nL
        · have hin' : (i : Int) < (nL : Int) := by omega
          have hil : i < L.length := by rw [Hnl.out]; exact hin
          have Hb3i := Lib.hid (Hc5.out.trans (Hbw.out.mono hs5))
          obtain ⟨b, off, rfl, hbl, c0, c1, c2, c3, hS⟩ := (HSL.out.below Hb3i.out).at i hil
          obtain ⟨yes, no, op, sm, mi, bo, f, hC⟩ := HRC.out i hil wi Hb3i.out
          have hcr2 := HLq.out.cr L[i] (List.getElem_mem hil)
          obtain ⟨x, hx⟩ : ∃ x, x = L[i] := ⟨_, rfl⟩
          rw [← hx] at c0 c1 c2 c3 hS hC hcr2
          have HS := Lib.hid hS
          clear hS hx
          obtain ⟨jc, hjc⟩ : ∃ jc : Nat, x.1.cr = (jc : Int) := ⟨x.1.cr.toNat, by omega⟩
          have hjK : jc < K.length := by rw [HKl.out]; omega
          have hjk : (jc : Int) < (k : Int) := by omega
          have Hdk := Lib.hid (fun W (h : Below wi.heap.size wi W) => ((Hcr3.out.below Hb3i.out).below h).at jc hjK)
          have hark : arK K x.1.cr = decide (bits .and .i64 K[jc].mks 3 = 0) := by
            unfold arK
            rw [hjc, mksK_at K jc hjK]
          have Hev := Lib.hid hC.ev
          have Hfa := Lib.hid hC.fam
          have Hsa := Lib.hid hC.same
          have Hmi := Lib.hid hC.mine
          have Hq1 := Lib.hid hC.b1
          have Hq2 := Lib.hid hC.b2
          have Hq3 : Hid (bits .and .i64 K[jc].mks 3 = 0 → ∀ W A1 k1 A2 k2, SlR W A1 rp.length k1 rp → SlR W A2 x.1.rg.length k2 x.1.rg → Calls Tryz.prog 25 #[.agg #[.slice A1 rp.length k1], .agg #[.slice A2 x.1.rg.length k2]] W (RegPost W (yes, 0))) := Lib.hid (fun h => hC.b3 (by rw [hark]; exact decide_eq_true h))
          rw [hjc] at c2
          simp only [hjc] at Hev Hfa
          generalize K[jc].mks = mk at *
          clear hC hjc hark hcr2
          go_upto_region 24 with fail
          obtain ⟨wa, hwa⟩ : ∃ wa : World, wa = wi.alloc (.cells #[.int .i64 x.1.pc, .slice x.2.a x.1.rg.length x.2.c, .int .i64 (jc : Int), .int .i64 x.1.sch] 35) := ⟨_, rfl⟩
          rw [← hwa]
          obtain ⟨X, hX⟩ : ∃ X, X = wi.heap.size := ⟨_, rfl⟩
          have hra : wa.heap[X]? = some (.cells #[.int .i64 x.1.pc, .slice x.2.a x.1.rg.length x.2.c, .int .i64 (jc : Int), .int .i64 x.1.sch] 35 (0, 0)) := by rw [hwa, hX]; exact heap_alloc_new wi _
          have Hra := Lib.hid hra
          have Hba : Hid (Below wi.heap.size wi wa) := Lib.hid (by rw [hwa]; exact gBel)
          have hsa : X < wa.heap.size := by rw [hwa, hX]; simp
          rw [← hX]
          have a0 := cell_of_row _ _ 0 _ _ _ hra
          have a1 := cell_of_row _ _ 1 _ _ _ hra
          have a2 := cell_of_row _ _ 2 _ _ _ hra
          have a3 := cell_of_row _ _ 3 _ _ _ hra
          have hXi : X ≤ wi.heap.size := by omega
          clear hwa hra hX c0 c1 c2 c3
          go_upto_region 25 with (first
            | (go_at_call 35
               refine (Hev.out _ Hba.out).mono ?_
               rintro e w6 ⟨u1, u2, u3, rfl, hu1, -, -, hb6⟩
               have HU6 := Lib.hid (SlR.ofR hu1)
               have Hb6 := Lib.hid hb6
               clear hu1 hb6 a0 a1 a2 a3)
            | fail)
          obtain ⟨wb, hwb⟩ : ∃ wb : World, wb = w6.alloc (.cells #[.slice u1.a yes.length u1.c, .slice u2.a no.length u2.c, .slice u3.a op.length u3.c] 79) := ⟨_, rfl⟩
          rw [← hwb]
          obtain ⟨T, hT⟩ : ∃ T, T = w6.heap.size := ⟨_, rfl⟩
          have HTb : Hid (wb.heap[T]? = some (.cells #[.slice u1.a yes.length u1.c, .slice u2.a no.length u2.c, .slice u3.a op.length u3.c] 79 (0, 0))) := Lib.hid (by rw [hwb, hT]; exact heap_alloc_new w6 _)
          have Hb6b : Hid (Below w6.heap.size w6 wb) := Lib.hid (by rw [hwb]; exact gBel)
          have hTb : T < wb.heap.size := by rw [hwb, hT]; simp
          have Hab : Hid (Below wa.heap.size wa wb) := Lib.hid (Hb6.out.trans (Hb6b.out.mono Hb6.out.size))
          have Hib : Hid (Below wi.heap.size wi wb) := Lib.hid (Hba.out.trans (Hab.out.mono Hba.out.size))
          have Hrb := Lib.hid ((Hab.out.block X hsa).trans Hra.out)
          have HUb := Lib.hid (HU6.out.below Hb6b.out)
          have HSb := Lib.hid (HS.out.below Hib.out)
          have HLb := Lib.hid (HL5.out.below (Hbw.out.trans (Hib.out.mono hsi)))
          have hXb : X < wb.heap.size := Nat.lt_of_lt_of_le hsa Hab.out.size
          rw [← hT]
          have a2 := cell_of_row _ _ 2 _ _ _ Hrb.out
          have Hyb : Hid (Below wb.heap.size wb wb) := Lib.hid (Below.refl _ _)
          have hsb := Hib.out.size
          clear hwb hT HU6 Hb6 Hb6b Hra Hba
          go_upto_region 26 with (first
            | (go_at_call 40
               refine (Hfa.out _ Hib.out).mono ?_
               rintro e wf ⟨rfl, hbf⟩
               have Hyf := Lib.hid hbf
               have HLf := Lib.hid (HLb.out.below hbf)
               have hyf := hbf.size
               clear hbf a2)
            | fail)
          clear Hyb HLb
          go_upto_region 27 with (first
            | (go_at_call 41
               refine (Hsa.out _ (Hib.out.trans (Hyf.out.mono hsb))).mono ?_
               rintro e wq0 ⟨vq0, rfl, hownq0, hbq0⟩
               obtain ⟨Dq0, kq0, rfl, hq0⟩ := SlR.of_own hownq0
               have HLq0 := Lib.hid (HLf.out.below hbq0)
               have Hsq0 : Hid (SlR wq0 Dq0 sm.length kq0 sm) := Lib.hid hq0
               have Hyq0 : Hid (Below wb.heap.size wb wq0) := Lib.hid (Hyf.out.trans (hbq0.mono hyf))
               clear hownq0 hbq0 hq0)
            | fail)
          obtain ⟨wz0, hwz0⟩ : ∃ wz0 : World, wz0 = wq0.alloc (.cells #[.slice Dq0 sm.length kq0] 33) := ⟨_, rfl⟩
          try dsimp only
          rw [← hwz0]
          have HLz0 := Lib.hid (HLq0.out.push Dq0 sm.length kq0 sm Hsq0.out)
          rw [← hwz0] at HLz0
          have Hyz0 : Hid (Below wb.heap.size wb wz0) := Lib.hid (by rw [hwz0]; exact Hyq0.out.alloc Hyq0.out.size _)
          have hyz0 := Hyz0.out.size
          clear hwz0 HLq0 Hsq0 Hyq0 HLf Hyf hyf
          go_upto_region 28 with (first
            | (go_at_call 42
               refine (Hmi.out _ (Hib.out.trans (Hyz0.out.mono hsb))).mono ?_
               rintro e wq1 ⟨vq1, rfl, hownq1, hbq1⟩
               obtain ⟨Dq1, kq1, rfl, hq1⟩ := SlR.of_own hownq1
               have HLq1 := Lib.hid (HLz0.out.below hbq1)
               have Hsq1 : Hid (SlR wq1 Dq1 mi.length kq1 mi) := Lib.hid hq1
               have Hyq1 : Hid (Below wb.heap.size wb wq1) := Lib.hid (Hyz0.out.trans (hbq1.mono hyz0))
               clear hownq1 hbq1 hq1)
            | fail)
          obtain ⟨wz1, hwz1⟩ : ∃ wz1 : World, wz1 = wq1.alloc (.cells #[.slice Dq1 mi.length kq1] 33) := ⟨_, rfl⟩
          try dsimp only
          rw [← hwz1]
          have HLz1 := Lib.hid (HLq1.out.push Dq1 mi.length kq1 mi Hsq1.out)
          rw [← hwz1] at HLz1
          have Hyz1 : Hid (Below wb.heap.size wb wz1) := Lib.hid (by rw [hwz1]; exact Hyq1.out.alloc Hyq1.out.size _)
          have hyz1 := Hyz1.out.size
          clear hwz1 HLq1 Hsq1 Hyq1 HLz0 Hyz0 hyz0
          go_upto_region 30 with fail
          have cx2 : wz1.cell? ⟨wq0.heap.size, 0, none⟩ = some (.slice Dq0 sm.length kq0) := (HLz1.out _ (.tail _ (.head _))).c0
          have cy2 : wz1.cell? ⟨wq1.heap.size, 0, none⟩ = some (.slice Dq1 mi.length kq1) := (HLz1.out _ (.head _)).c0
          go_upto_region 31 with (first
            | (go_at_call 25
               refine (Hq1.out _ Dq0 kq0 Dq1 kq1 (HLz1.out _ (.tail _ (.head _))).sl (HLz1.out _ (.head _)).sl).mono ?_
               rintro e wq2 ⟨vq2, rfl, hownq2, hbq2⟩
               obtain ⟨Dq2, kq2, rfl, hq2⟩ := SlR.of_own hownq2
               have HLq2 := Lib.hid (HLz1.out.below hbq2)
               have Hsq2 : Hid (SlR wq2 Dq2 bo.length kq2 bo) := Lib.hid hq2
               have Hyq2 : Hid (Below wb.heap.size wb wq2) := Lib.hid (Hyz1.out.trans (hbq2.mono hyz1))
               clear hownq2 hbq2 hq2)
            | fail)
          obtain ⟨wz2, hwz2⟩ : ∃ wz2 : World, wz2 = wq2.alloc (.cells #[.slice Dq2 bo.length kq2] 33) := ⟨_, rfl⟩
          try dsimp only
          rw [← hwz2]
          have HLz2 := Lib.hid (HLq2.out.push Dq2 bo.length kq2 bo Hsq2.out)
          rw [← hwz2] at HLz2
          have Hyz2 : Hid (Below wb.heap.size wb wz2) := Lib.hid (by rw [hwz2]; exact Hyq2.out.alloc Hyq2.out.size _)
          have hyz2 := Hyz2.out.size
          clear cx2 cy2 hwz2 HLq2 Hsq2 Hyq2 HLz1 Hyz1 hyz1
          have cx3 : wz2.cell? ⟨wq2.heap.size, 0, none⟩ = some (.slice Dq2 bo.length kq2) := (HLz2.out _ (.head _)).c0
          have cy3 := cell_of_row _ _ 1 _ _ _ ((Hyz2.out.block X hXb).trans Hrb.out)
          go_upto_region 32 with (first
            | (go_at_call 25
               refine (Hq2.out _ Dq2 kq2 x.2.a x.2.c (HLz2.out _ (.head _)).sl (HSb.out.below Hyz2.out)).mono ?_
               rintro e wq3 ⟨vq3, rfl, hownq3, hbq3⟩
               obtain ⟨Dq3, kq3, rfl, hq3⟩ := SlR.of_own hownq3
               have HLq3 := Lib.hid (HLz2.out.below hbq3)
               have Hsq3 : Hid (SlR wq3 Dq3 yes.length kq3 yes) := Lib.hid hq3
               have Hyq3 : Hid (Below wb.heap.size wb wq3) := Lib.hid (Hyz2.out.trans (hbq3.mono hyz2))
               clear hownq3 hbq3 hq3)
            | fail)
          obtain ⟨wz3, hwz3⟩ : ∃ wz3 : World, wz3 = wq3.alloc (.cells #[.slice Dq3 yes.length kq3] 33) := ⟨_, rfl⟩
          try dsimp only
          rw [← hwz3]
          have HLz3 := Lib.hid (HLq3.out.push Dq3 yes.length kq3 yes Hsq3.out)
          rw [← hwz3] at HLz3
          have Hyz3 : Hid (Below wb.heap.size wb wz3) := Lib.hid (by rw [hwz3]; exact Hyq3.out.alloc Hyq3.out.size _)
          have hyz3 := Hyz3.out.size
          clear cx3 cy3 hwz3 HLq3 Hsq3 Hyq3 HLz2 Hyz2 hyz2
          have csA : wz3.cell? ⟨wq3.heap.size, 0, none⟩ = some (.slice Dq3 yes.length kq3) := (HLz3.out _ (.head _)).c0
          have ctA := cell_of_row _ _ 0 _ _ _ ((Hyz3.out.block T hTb).trans HTb.out)
          have HPA := Lib.hid (show Calls Tryz.prog 36 #[.agg #[.slice Dq3 yes.length kq3], .agg #[.slice u1.a yes.length u1.c]] wz3 fun e w' => e = .returned (.bool true) ∧ Below wz3.heap.size wz3 w' from by
            have h1 := sameP_any Dq3 u1.a yes.length kq3 yes.length u1.c yes yes wz3 (HLz3.out _ (.head _)).sl (HUb.out.below Hyz3.out)
            rw [decide_eq_true rfl] at h1
            exact h1)
          go_upto_region 34 with (first
            | (go_at_call 36
               refine HPA.out.mono ?_
               rintro e wg ⟨rfl, hbg⟩
               have Hyg := Lib.hid (Hyz3.out.trans (hbg.mono hyz3))
               have HLg := Lib.hid (HLz3.out.below hbg)
               have hyg := Hyg.out.size
               clear hbg csA ctA)
            | fail)
          clear HPA HLz3 Hyz3 hyz3
          have a2 := cell_of_row _ _ 2 _ _ _ ((Hyg.out.block X hXb).trans Hrb.out)
          obtain ⟨b2, off2, rfl, hbl2, d0, d1, d2⟩ := Hdk.out wg (Hib.out.trans (Hyg.out.mono hsb))
          by_cases hq : bits .and .i64 mk 3 = 0
          · have HQ3 := Hq3.out hq
            go_upto_region 35 with fail
            clear d0 d1 d2 a2
            have cx9 : wg.cell? ⟨w4.heap.size, 0, none⟩ = some (.slice A4 rp.length c4) := (HLg.out _ (.tail _ (.tail _ (.tail _ (.tail _ (.head _)))))).c0
            have cy9 := cell_of_row _ _ 1 _ _ _ ((Hyg.out.block X hXb).trans Hrb.out)
            go_upto_region 36 with (first
              | (go_at_call 25
                 refine (HQ3 _ A4 c4 x.2.a x.2.c (HLg.out _ (.tail _ (.tail _ (.tail _ (.tail _ (.head _)))))).sl (HSb.out.below Hyg.out)).mono ?_
                 rintro e wq9 ⟨vq9, rfl, hownq9, hbq9⟩
                 obtain ⟨Dq9, kq9, rfl, hq9⟩ := SlR.of_own hownq9
                 have HLq9 := Lib.hid (HLg.out.below hbq9)
                 have Hsq9 : Hid (SlR wq9 Dq9 yes.length kq9 yes) := Lib.hid hq9
                 have Hyq9 : Hid (Below wb.heap.size wb wq9) := Lib.hid (Hyg.out.trans (hbq9.mono hyg))
                 clear hownq9 hbq9 hq9)
              | fail)
            obtain ⟨wz9, hwz9⟩ : ∃ wz9 : World, wz9 = wq9.alloc (.cells #[.slice Dq9 yes.length kq9] 33) := ⟨_, rfl⟩
            try dsimp only
            rw [← hwz9]
            have HLz9 := Lib.hid (HLq9.out.push Dq9 yes.length kq9 yes Hsq9.out)
            rw [← hwz9] at HLz9
            have Hyz9 : Hid (Below wb.heap.size wb wz9) := Lib.hid (by rw [hwz9]; exact Hyq9.out.alloc Hyq9.out.size _)
            have hyz9 := Hyz9.out.size
            clear cx9 cy9 hwz9 HLq9 Hsq9 Hyq9 HLg Hyg hyg
            have csB : wz9.cell? ⟨wq9.heap.size, 0, none⟩ = some (.slice Dq9 yes.length kq9) := (HLz9.out _ (.head _)).c0
            have ctB := cell_of_row _ _ 0 _ _ _ ((Hyz9.out.block T hTb).trans HTb.out)
            have HPB := Lib.hid (show Calls Tryz.prog 36 #[.agg #[.slice Dq9 yes.length kq9], .agg #[.slice u1.a yes.length u1.c]] wz9 fun e w' => e = .returned (.bool true) ∧ Below wz9.heap.size wz9 w' from by
              have h1 := sameP_any Dq9 u1.a yes.length kq9 yes.length u1.c yes yes wz9 (HLz9.out _ (.head _)).sl (HUb.out.below Hyz9.out)
              rw [decide_eq_true rfl] at h1
              exact h1)
            go_wp2_with (first
              | (go_at_call 36
                 refine HPB.out.mono ?_
                 rintro e wh ⟨rfl, hbh⟩
                 have Hyh := Lib.hid (Hyz9.out.trans (hbh.mono hyz9))
                 clear hbh csB ctB)
              | fail)
            go_roundw
            case rel => exact ⟨i + 1, by omega, by go_num, Hbw.out.trans ((Hib.out.trans (Hyh.out.mono hsb)).mono hsi)⟩
            case measure => simp [intOf]; omega
          · have hqb : (bits .and .i64 mk 3 == 0) = false := by simp [hq]
            have hqd : decide (bits .and .i64 mk 3 = 0) = false := decide_eq_false hq
            go_wp2
            go_roundw
            case rel => exact ⟨i + 1, by omega, by go_num, Hbw.out.trans ((Hib.out.trans (Hyg.out.mono hsb)).mono hsi)⟩
            case measure => simp [intOf]; omega
        · have hin' : ¬ (i : Int) < (nL : Int) := by omega
          go_wp2_with (first
            | (go_at_call 17
               refine (awakeT_any _).mono ?_
               rintro e w9 ⟨rfl, hb9⟩
               have Hb9 := Lib.hid hb9
               clear hb9)
            | fail)
          go_ret
          exact ⟨rfl, Hb13.out.trans ((Hc5.out.trans ((Hbw.out.trans (Hb9.out.mono hsi)).mono hs5)).mono hs13)⟩
end Go.Proofs.YtfmkmhhghmdakaaGreatDoor
namespace Go.Proofs.YtfmkmhhghmdakaaGreatDoor
open Go.ChangeShapes Go.WideShapes Go.ChangeAt Go.RowKit
set_option linter.unusedVariables false
set_option linter.unusedSimpArgs false
set_option maxHeartbeats 64000000
set_option maxRecDepth 100000
theorem open_lies {H : Type} {enc : TypeId × Value → H} {P : Program} {W : World} {r : Reach} {base : Nat} {t e : TypeId} {k : IntKind} {v : Value} {d : DataW H} {p : List MemPlace}
    (ht : P.underlying t = some (.slice e)) (he : P.underlying e = some (.int k)) (hC : P.cellsOf e = 1) (hv : Value.okWide P W r base t v) (h : DataW.Trod enc P W 0 (fun _ => true) true t v d p) :
    ∃ (A : Option Addr) (n c : Nat) (zs : List Int), v = .slice A n c ∧ zs.length = n ∧ (n ≤ c ∧ c ≤ maxLen) ∧ Lies W A n (zs.map (.int k)) ∧ ∀ z ∈ zs, (Lit.int k z).wf = true := by
  obtain ⟨A, n, c, rfl⟩ := okWide_slice ht hv
  obtain ⟨fuel, hf⟩ := h
  rcases open_ints ht he hC hf with ⟨hcs, _⟩ | ⟨x, l, c', zs, hcs, _, hl, hm, hz, _, hcell, hwz⟩
  · simp [Value.cells] at hcs
    obtain ⟨rfl, rfl, rfl⟩ := hcs
    exact ⟨none, 0, 0, [], rfl, rfl, ⟨Nat.le_refl _, Nat.zero_le _⟩, .inl rfl, fun z hz => by cases hz⟩
  · simp [Value.cells] at hcs
    obtain ⟨rfl, rfl, rfl⟩ := hcs
    have hz' : zs.length = c := by simpa using hz
    refine ⟨some x, n, c, zs.take n, rfl, by rw [List.length_take]; omega, ⟨hl, hm⟩, ?_, fun z hz => hwz z (List.mem_of_mem_take hz)⟩
    by_cases h0 : n = 0
    · exact .inl h0
    · obtain ⟨b, off, spot⟩ := x
      have hc0 := hcell 0 (by omega)
      have hspot : spot = none := by simpa [Addr.add] using World.cell?_spot hc0
      subst hspot
      have hb := World.block_lt_of_cell? W _ hc0
      rw [add_none] at hb
      refine .inr ⟨b, off, rfl, hb, fun j u hu => ?_⟩
      have hj : j < n := by
        rcases Nat.lt_or_ge j n with h | h
        · exact h
        · rw [List.getElem?_eq_none (by simp; omega)] at hu; cases hu
      have := hcell j (by omega)
      rw [add_none] at this
      rw [this]
      rw [List.getElem?_map, List.getElem?_take, if_pos hj] at hu
      rw [List.getElem?_eq_getElem (by omega)] at hu
      rw [List.getD_eq_getElem?_getD, List.getElem?_eq_getElem (by omega)]
      simpa using hu
end Go.Proofs.YtfmkmhhghmdakaaGreatDoor
