/- RegionAnswers: the walk. -/
import Derived.Test.YtmkopmcjilaedaaGreatV5
import Derived.Test.YtmkopmcjilaedaaGreatV1
import Derived.Test.YtmkopmcjilaedaaGreatVs
namespace Go.Proofs.YtmkopmcjilaedaaGreat
open Go.RowKit
set_option linter.unusedVariables false
set_option linter.unusedSimpArgs false

set_option maxHeartbeats 16000000 in
set_option maxRecDepth 100000 in
theorem answersLaw (D1 D2 : Option Addr) (k1 k2 : Nat) (ra rb : List R4) (x y : Int) (A : Option Addr) (n c : Nat) (zs : List Int) (w : World) (hA : SlR w D1 ra.length k1 ra) (hB : SlR w D2 rb.length k2 rb) (hx : (Lit.int .i64 x).wf = true) (hy : (Lit.int .i64 y).wf = true)
    (hn : zs.length = n) (hc : n ≤ c) (hm : c ≤ maxLen) (hw : ∀ z ∈ zs, (Lit.int .i64 z).wf = true) (hL : Lies w A n (zs.map (.int .i64))) :
    Calls Tryz.prog 3 #[.agg #[.slice D1 ra.length k1], .agg #[.slice D2 rb.length k2], .int .i64 x, .int .i64 y, .slice A n c] w fun e w' => e = .returned (.bool true) ∧ Below w.heap.size w w' := by
  obtain ⟨i0, hi, hz0, hz1, hz2⟩ := info_parts Tryz.infoRect
  have HM1 := Lib.hid (fun W => mod_any x 10 W (bounds_i64 hx) (by omega))
  have HM2 := Lib.hid (fun W => mod_any y 10 W (bounds_i64 hy) (by omega))
  generalize modV x 10 = x' at *
  generalize modV y 10 = y' at *
  clear hx hy
  go_enter Tryz.func3, Tryz.ntmps3
  go_upto_region 1 with fail
  obtain ⟨wa, hwa⟩ : ∃ wa : World, wa = (w.alloc (.cells #[.slice D1 ra.length k1] 24)).alloc (.cells #[.slice D2 rb.length k2] 24) := ⟨_, rfl⟩
  rw [← hwa]
  have HLa : Hid (RBs wa [⟨w.heap.size + 1, D2, rb.length, k2, rb⟩, ⟨w.heap.size, D1, ra.length, k1, ra⟩]) := Lib.hid (by rw [hwa]; exact RBs.two w D1 D2 ra.length k1 rb.length k2 ra rb hA hB)
  have Hba : Hid (Below w.heap.size w wa) := Lib.hid (by rw [hwa]; exact (by repeat' (first | with_reducible exact Below.refl _ _ | with_reducible refine below_drewN ?_ _ | with_reducible refine Below.drew ?_ | with_reducible refine Below.alloc ?_ ?_ _ | with_reducible refine Below.setCell ?_ ?_ _ | with_reducible refine Below.trans ?_ (Below.mono (by with_reducible assumption) ?_) | (simp; done) | (simp; omega) | omega)))
  have hsa := Hba.out.size
  have HN := Lib.hid (new_any A n c zs wa hn hc hm hw (hL.below Hba.out))
  clear hwa hA hB hL hw hn
  have cx0 : wa.cell? ⟨w.heap.size, 0, none⟩ = some (.slice D1 ra.length k1) := (HLa.out _ (.tail _ (.head _))).c0
  have cy0 : wa.cell? ⟨w.heap.size + 1, 0, none⟩ = some (.slice D2 rb.length k2) := (HLa.out _ (.head _)).c0
  by_cases h1 : 8 < ra.length
  · have h1' : (8 : Int) < (ra.length : Int) := by omega
    have h1d : decide (8 < ra.length) = true := decide_eq_true h1
    go_wp2_with (first | (go_at_call 4; refine (awake_any _).mono ?_; rintro e w1 ⟨rfl, hb1⟩; have Hb1 := Lib.hid hb1; clear hb1) | fail)
    go_ret
    exact ⟨rfl, Hba.out.trans (Hb1.out.mono hsa)⟩
  · have h1' : ¬ (8 : Int) < (ra.length : Int) := by omega
    have h1d : decide (8 < ra.length) = false := decide_eq_false h1
    by_cases h2 : 8 < rb.length
    · have h2' : (8 : Int) < (rb.length : Int) := by omega
      have h2d : decide (8 < rb.length) = true := decide_eq_true h2
      go_wp2_with (first | (go_at_call 4; refine (awake_any _).mono ?_; rintro e w1 ⟨rfl, hb1⟩; have Hb1 := Lib.hid hb1; clear hb1) | fail)
      go_ret
      exact ⟨rfl, Hba.out.trans (Hb1.out.mono hsa)⟩
    · have h2' : ¬ (8 : Int) < (rb.length : Int) := by omega
      have h2d : decide (8 < rb.length) = false := decide_eq_false h2
      generalize zs.take 400 = r at *
      go_upto_region 4 with (first
        | (go_at_call 5
           refine HN.out.mono ?_
           rintro e w0 ⟨g, rfl, hg, ht, hb0⟩
           have HT0 := Lib.hid ht
           have Hb0 := Lib.hid hb0
           clear ht hb0)
        | fail)
      have hbc1 := Hb0.out.size
      obtain ⟨⟨rc, r1⟩, hp1⟩ : ∃ p, mkBrk r 9 4 = p := ⟨_, rfl⟩
      have HB1 := Lib.hid (fun W (hW : TapeAt W g r) => broken_any g r 9 4 W hW (by omega) (by omega))
      rw [hp1] at HB1
      obtain ⟨⟨rd, r2⟩, hp2⟩ : ∃ p, mkBrk r1 9 4 = p := ⟨_, rfl⟩
      have HB2 := Lib.hid (fun W (hW : TapeAt W g r1) => broken_any g r1 9 4 W hW (by omega) (by omega))
      rw [hp2] at HB2
      have hrc92 : rc.length ≤ 92 := by have := mkBrk_len r 9 4 (by omega) (by omega); rw [hp1] at this; exact this
      have hrd92 : rd.length ≤ 92 := by have := mkBrk_len r1 9 4 (by omega) (by omega); rw [hp2] at this; exact this
      clear hp1 hp2
      go_upto_region 5 with (first
        | (go_at_call 6
           refine (HB1.out _ HT0.out).mono ?_
           rintro e w1 ⟨v1, rfl, hown1, ht1, hg1⟩
           simp only at hown1 ht1
           have Hown1 := Lib.hid hown1
           have HT1 := Lib.hid ht1
           have Hg1 := Lib.hid hg1
           clear hown1 ht1 hg1)
        | (go_at_call 6
           refine (HB2.out _ HT1.out).mono ?_
           rintro e w2 ⟨v2, rfl, hown2, ht2, hg2⟩
           simp only at hown2 ht2
           have hlt0 := HT0.out.lt
           obtain ⟨D3, k3, rfl, hS3⟩ := SlR.of_own (ownsRow_only Hown1.out hg2 (by omega))
           obtain ⟨D4, k4, rfl, hS4⟩ := SlR.of_own hown2
           have HS3 := Lib.hid hS3
           have HS4 := Lib.hid hS4
           have Hb2 : Hid (Below wa.heap.size wa w2) := Lib.hid (below_only (below_only Hb0.out Hg1.out hg hbc1) hg2 hg (by have := Hg1.out.size; omega))
           clear hown2 ht2 hg2 hS3 hS4 Hown1 HT1 Hg1 HT0 hlt0)
        | fail)
      obtain ⟨wb, hwb⟩ : ∃ wb : World, wb = (w2.alloc (.cells #[.slice D3 rc.length k3] 24)).alloc (.cells #[.slice D4 rd.length k4] 24) := ⟨_, rfl⟩
      rw [← hwb]
      have HLb : Hid (RBs wb [⟨w2.heap.size + 1, D4, rd.length, k4, rd⟩, ⟨w2.heap.size, D3, rc.length, k3, rc⟩, ⟨w.heap.size + 1, D2, rb.length, k2, rb⟩, ⟨w.heap.size, D1, ra.length, k1, ra⟩]) := Lib.hid (by
        have h0 := (HLa.out.below Hb2.out).push D3 rc.length k3 rc HS3.out
        have h3 := h0.push D4 rd.length k4 rd (HS4.out.alloc _)
        rw [hwb]
        simpa using h3)
      have Hbb : Hid (Below w.heap.size w wb) := Lib.hid (by rw [hwb]; exact ((Hba.out.trans (Hb2.out.mono hsa)).alloc (Nat.le_trans hsa Hb2.out.size) _).alloc (by have := Hb2.out.size; simp; omega) _)
      have hsb := Hbb.out.size
      clear hwb HS3 HS4 Hb2 HLa Hba Hb0 HB1 HB2 HN cx0 cy0
      have z5 : wb.cell? ⟨w.heap.size, 0, none⟩ = some (.slice D1 ra.length k1) := (HLb.out _ (.tail _ (.tail _ (.tail _ (.head _))))).c0
      have z6 : wb.cell? ⟨w.heap.size + 1, 0, none⟩ = some (.slice D2 rb.length k2) := (HLb.out _ (.tail _ (.tail _ (.head _)))).c0
      have z12 : wb.cell? ⟨w2.heap.size, 0, none⟩ = some (.slice D3 rc.length k3) := (HLb.out _ (.tail _ (.head _))).c0
      have z13 : wb.cell? ⟨w2.heap.size + 1, 0, none⟩ = some (.slice D4 rd.length k4) := (HLb.out _ (.head _)).c0
      have y5 := (HLb.out _ (.tail _ (.tail _ (.tail _ (.head _))))).lt
      have y6 := (HLb.out _ (.tail _ (.tail _ (.head _)))).lt
      have y12 := (HLb.out _ (.tail _ (.head _))).lt
      have y13 := (HLb.out _ (.head _)).lt
      simp only at y5 y6 y12 y13
      have Hrc := Lib.hid ((HLb.out _ (.tail _ (.head _))).sl.lies.reads (size := 4) (by rw [rCells_len]))
      have Hrb := Lib.hid ((HLb.out _ (.tail _ (.tail _ (.head _)))).sl.lies.reads (size := 4) (by rw [rCells_len]))
      simp only at Hrc Hrb
      go_upto_region 5 with fail
      go_region_held3 (fun w' => w'.cell? ⟨w.heap.size, 0, none⟩ = some (.slice D1 ra.length k1) ∧ w'.cell? ⟨w.heap.size + 1, 0, none⟩ = some (.slice D2 rb.length k2) ∧ w'.cell? ⟨w2.heap.size, 0, none⟩ = some (.slice D3 rc.length k3))
        (first | go_keep | ((repeat' apply And.intro) <;> go_keep))
        (first
          | ((refine step_append_any _ rfl (.tmp 41) (.tmp 43) 22 rfl wb.heap.size 39 i0 (.agg #[.int .i64 0, .int .i64 0, .int .i64 0, .int .i64 0]) 4 32 Tryz.underlying22 hi hz0 hz1 hz2 rfl (by omega) (.slice (some ⟨wb.heap.size, 0, none⟩) 0 0) 0 [] rfl (own_zero _ _ _ _ (Nat.le_refl _)) _ D3 rc.length k3 (rCells rc) rfl (Hrc.out.alloc (Nat.le_refl _) _) (rCells_one rc) (by simp only [maxLen]; omega) (by omega) (by simp) ?_)
             intro v5 w5 hown5 hg5 hat5
             simp only [Nat.zero_add, List.nil_append] at hown5
             have Hown5 := Lib.hid hown5
             have Hb5 : Hid (Below wb.heap.size wb w5) := Lib.hid (show Below wb.heap.size wb w5 from Below.grown (by repeat' (first | with_reducible exact Below.refl _ _ | with_reducible refine below_drewN ?_ _ | with_reducible refine Below.drew ?_ | with_reducible refine Below.alloc ?_ ?_ _ | with_reducible refine Below.setCell ?_ ?_ _ | with_reducible refine Below.trans ?_ (Below.mono (by with_reducible assumption) ?_) | (simp; done) | (simp; omega) | omega)) hg5 (by first | (simp; done) | (simp; omega) | omega) (by intro k hk; simp [Value.ownBlock] at hk; omega))
             have q5 := (Hb5.out.cell (p := ⟨w.heap.size, 0, none⟩) y5).trans z5
             have q6 := (Hb5.out.cell (p := ⟨w.heap.size + 1, 0, none⟩) y6).trans z6
             have q12 := (Hb5.out.cell (p := ⟨w2.heap.size, 0, none⟩) y12).trans z12
             clear hown5 hg5 hat5)
          | ((refine step_append_any _ rfl (.tmp 44) (.tmp 46) 22 rfl wb.heap.size 39 i0 (.agg #[.int .i64 0, .int .i64 0, .int .i64 0, .int .i64 0]) 4 32 Tryz.underlying22 hi hz0 hz1 hz2 rfl (by omega) v5 rc.length (rCells rc) rfl Hown5.out _ D2 rb.length k2 (rCells rb) rfl ((Hrb.out.below Hb5.out).more Hb5.out.size) (rCells_one rb) (by simp only [maxLen]; omega) (by omega) Hb5.out.size ?_)
             intro v6 w6 hown6 hg6 hat6
             obtain ⟨A6, c6, rfl, hl6, hc6, hm6⟩ := own_slice hown6
             have HS6 : Hid (SlR w6 A6 (rc.length + rb.length) c6 (rc ++ rb)) := Lib.hid ⟨by simp, hc6, hm6, by rw [rCells_app]; exact hl6⟩
             have Hown6 := Lib.hid hown6
             have Hb6 : Hid (Below wb.heap.size wb w6) := Lib.hid (show Below wb.heap.size wb w6 from Below.grown Hb5.out hg6 Hb5.out.size (own_base Hown5.out))
             have q5 := (Hb6.out.cell (p := ⟨w.heap.size, 0, none⟩) y5).trans z5
             have q6 := (Hb6.out.cell (p := ⟨w.heap.size + 1, 0, none⟩) y6).trans z6
             have q12 := (Hb6.out.cell (p := ⟨w2.heap.size, 0, none⟩) y12).trans z12
             clear hown6 hg6 hat6 hl6 hc6 hm6)
          | fail)
      go_upto_region 6 with fail
      obtain ⟨wc, hwc⟩ : ∃ wc : World, wc = w6.alloc (.cells #[.slice D1 ra.length k1, .slice D3 rc.length k3, .slice A6 (rc.length + rb.length) c6] 22) := ⟨_, rfl⟩
      rw [← hwc]
      have Hbc : Hid (Below wb.heap.size wb wc) := Lib.hid (by rw [hwc]; exact Hb6.out.alloc Hb6.out.size _)
      have HLc := Lib.hid (HLb.out.below Hbc.out)
      have hsc : w6.heap.size < wc.heap.size := by rw [hwc]; simp
      have Hms : Hid (∀ i, i < 3 → ∃ (C : Option Addr) (p q : Nat) (l : List R4), wc.cell? ⟨w6.heap.size, i, none⟩ = some (.slice C p q) ∧ SlR wc C p q l) := Lib.hid (by
        intro i hi
        have h0 : wc.heap[w6.heap.size]? = some (.cells #[.slice D1 ra.length k1, .slice D3 rc.length k3, .slice A6 (rc.length + rb.length) c6] 22 (0, 0)) := by rw [hwc]; exact heap_alloc_new w6 _
        rcases (show i = 0 ∨ i = 1 ∨ i = 2 by omega) with rfl | rfl | rfl
        · exact ⟨D1, _, k1, ra, cell_of_row wc _ 0 _ _ _ h0, (HLc.out _ (.tail _ (.tail _ (.tail _ (.head _))))).sl⟩
        · exact ⟨D3, _, k3, rc, cell_of_row wc _ 1 _ _ _ h0, (HLc.out _ (.tail _ (.head _))).sl⟩
        · exact ⟨A6, _, c6, rc ++ rb, cell_of_row wc _ 2 _ _ _ h0, by rw [hwc]; exact HS6.out.alloc _⟩)
      have hbc := Hbc.out.size
      clear hwc HS6 Hown6 Hb6 Hown5 Hb5 Hrc Hrb HLb z5 z6 z12 z13 q5 q6 q12
      go_loopw [15, 16, 17, 18, 19, 50] (fun _ _ _ _ _ i wr => ∃ j : Nat, j ≤ 3 ∧ i = .int .i64 (j : Int) ∧ Below wc.heap.size wc wr) (fun _ _ _ _ _ i _ => 3 - (intOf i).toNat)
      case atStart => exact ⟨0, by omega, rfl, Below.refl _ _⟩
      case round =>
        obtain ⟨j, hj, rfl, hbr⟩ := hrel
        have Hbr := Lib.hid hbr
        have hsr := hbr.size
        by_cases hj3 : j < 3
        · obtain ⟨C, p, q, l, hcell, hS⟩ := Hms.out j hj3
          have cm := (hbr.cell (p := ⟨w6.heap.size, j, none⟩) hsc).trans hcell
          have HS := Lib.hid (hS.below hbr)
          have hj3' : (j : Int) < 3 := by omega
          have hj0 : (0 : Int) ≤ (j : Int) := by omega
          have hwj : IntKind.i64.wrap ((j : Int) + 1) = (j : Int) + 1 := IntWalk.i64_in _ (by omega)
          obtain ⟨⟨lo, er⟩, hof⟩ : ∃ z, ofP l = z := ⟨_, rfl⟩
          have HO1 := Lib.hid (fun W (hW : SlR W C p q l) => of_any C p q l W hW)
          have HO2 := Lib.hid (fun W (hW : SlR W C p q l) => ofR_any C p q l W hW)
          rw [← ofP_eq, hof] at HO2
          rw [hof] at HO1
          clear hof hbr hcell hS
          go_upto_region 10 with (first
            | (go_at_call 7
               refine (HO1.out _ (HS.out.below (by repeat' (first | with_reducible exact Below.refl _ _ | with_reducible refine below_drewN ?_ _ | with_reducible refine Below.drew ?_ | with_reducible refine Below.alloc ?_ ?_ _ | with_reducible refine Below.setCell ?_ ?_ _ | with_reducible refine Below.trans ?_ (Below.mono (by with_reducible assumption) ?_) | (simp; done) | (simp; omega) | omega)))).mono ?_
               rintro e w7 ⟨v7, rfl, hown7, hb7⟩
               simp only at hown7 ⊢
               obtain ⟨D7, k7, rfl, hS7⟩ := SlR.of_own hown7
               have HS7 := Lib.hid hS7
               have Hb7 := Lib.hid hb7
               have hs7 := hb7.size
               clear hown7 hb7 hS7)
            | (go_at_call 8
               refine (HO2.out _ (HS.out.below (Hb7.out.trans (Below.mono (by repeat' (first | with_reducible exact Below.refl _ _ | with_reducible refine below_drewN ?_ _ | with_reducible refine Below.drew ?_ | with_reducible refine Below.alloc ?_ ?_ _ | with_reducible refine Below.setCell ?_ ?_ _ | with_reducible refine Below.trans ?_ (Below.mono (by with_reducible assumption) ?_) | (simp; done) | (simp; omega) | omega)) hs7)))).mono ?_
               rintro e w8 ⟨v8, rfl, hown8, hb8⟩
               simp only at hown8 ⊢
               obtain ⟨D8, k8, rfl, hS8⟩ := SlR.of_own hown8
               have HS8 := Lib.hid hS8
               have Hb8 := Lib.hid hb8
               have hs8 := hb8.size
               clear hown8 hb8 hS8)
            | fail)
          have cD7 : (w7.alloc (.cells #[.slice D7 lo.length k7] 24)).heap[w7.heap.size]? = some (.cells #[.slice D7 lo.length k7] 24 (0, 0)) := heap_alloc_new w7 _
          have hs78 : w7.heap.size < w8.heap.size := by simp at hs8; omega
          have c7 := cell_of_row w8 w7.heap.size 0 _ _ _ ((Hb8.out.block _ (by simp)).trans cD7)
          obtain ⟨wd, hwd⟩ : ∃ wd : World, wd = w8.alloc (.cells #[.slice D8 lo.length k8] 24) := ⟨_, rfl⟩
          rw [← hwd]
          have d7 : wd.cell? ⟨w7.heap.size, 0, none⟩ = some (.slice D7 lo.length k7) := by rw [hwd, World.cell?_alloc_lt w8 _ _ (show w7.heap.size < w8.heap.size from hs78)]; exact c7
          have d8 : wd.cell? ⟨w8.heap.size, 0, none⟩ = some (.slice D8 lo.length k8) := by rw [hwd]; exact cell_of_row _ _ 0 _ _ _ (heap_alloc_new w8 _)
          have Hbd : Hid (Below wc.heap.size wc wd) := Lib.hid (by
            rw [hwd]
            exact (((Hbr.out.trans (Hb7.out.mono hsr)).alloc (Nat.le_trans hsr hs7) _).trans (Hb8.out.mono (by simp; omega))).alloc (by omega) _)
          have HS7d : Hid (SlR wd D7 lo.length k7 lo) := Lib.hid (by rw [hwd]; exact ((HS7.out.alloc _).below Hb8.out).alloc _)
          have HS8d : Hid (SlR wd D8 lo.length k8 lo) := Lib.hid (by rw [hwd]; exact HS8.out.alloc _)
          have HSm := Lib.hid (sameRef_any D7 D8 lo.length k7 lo.length k8 lo lo wd HS7d.out HS8d.out)
          have hsd := Hbd.out.size
          clear hwd cD7 c7 HS7 HS8 Hb7 Hb8 HS7d HS8d HO1 HO2 HS cm
          go_wp2_with (first
            | (go_at_call 9
               refine HSm.out.mono ?_
               rintro e w9 ⟨rfl, hb9⟩
               have Hb9 : Hid (Below wc.heap.size wc w9) := Lib.hid (Hbd.out.trans (hb9.mono hsd))
               clear hb9)
            | fail)
          go_roundw
          case rel => exact ⟨j + 1, by omega, by go_num, Hb9.out⟩
          case measure => simp [intOf]; omega
        · have hj3' : ¬ (j : Int) < 3 := by omega
          have HLr := Lib.hid (HLc.out.below hbr)
          have Hbe : Hid (Below w.heap.size w wr) := Lib.hid (Hbb.out.trans ((Hbc.out.trans (hbr.mono hbc)).mono hsb))
          have hse := Hbe.out.size
          have z5 : wr.cell? ⟨w.heap.size, 0, none⟩ = some (.slice D1 ra.length k1) := (HLr.out _ (.tail _ (.tail _ (.tail _ (.head _))))).c0
          have z6 : wr.cell? ⟨w.heap.size + 1, 0, none⟩ = some (.slice D2 rb.length k2) := (HLr.out _ (.tail _ (.tail _ (.head _)))).c0
          have z12 : wr.cell? ⟨w2.heap.size, 0, none⟩ = some (.slice D3 rc.length k3) := (HLr.out _ (.tail _ (.head _))).c0
          have z13 : wr.cell? ⟨w2.heap.size + 1, 0, none⟩ = some (.slice D4 rd.length k4) := (HLr.out _ (.head _)).c0
          have x5 := (HLr.out _ (.tail _ (.tail _ (.tail _ (.head _))))).lt
          have x6 := (HLr.out _ (.tail _ (.tail _ (.head _)))).lt
          have x12 := (HLr.out _ (.tail _ (.head _))).lt
          have x13 := (HLr.out _ (.head _)).lt
          simp only at x5 x6 x12 x13
          have P1 : Hid (∀ W, Below wr.heap.size wr W → Calls Tryz.prog 10 #[.agg #[.slice D1 ra.length k1], .agg #[.slice D2 rb.length k2], .int .i64 x, .int .i64 y] W fun e w' => e = .returned (.bool true) ∧ Below W.heap.size W w') := Lib.hid (fun W hW => pair_any D1 D2 k1 k2 ra rb x y W ((HLr.out _ (.tail _ (.tail _ (.tail _ (.head _))))).sl.below hW) ((HLr.out _ (.tail _ (.tail _ (.head _)))).sl.below hW))
          have P2 : Hid (∀ W, Below wr.heap.size wr W → Calls Tryz.prog 10 #[.agg #[.slice D3 rc.length k3], .agg #[.slice D4 rd.length k4], .int .i64 x', .int .i64 y'] W fun e w' => e = .returned (.bool true) ∧ Below W.heap.size W w') := Lib.hid (fun W hW => pair_any D3 D4 k3 k4 rc rd x' y' W ((HLr.out _ (.tail _ (.head _))).sl.below hW) ((HLr.out _ (.head _)).sl.below hW))
          have P3 : Hid (∀ W, Below wr.heap.size wr W → Calls Tryz.prog 10 #[.agg #[.slice D1 ra.length k1], .agg #[.slice D4 rd.length k4], .int .i64 x, .int .i64 y] W fun e w' => e = .returned (.bool true) ∧ Below W.heap.size W w') := Lib.hid (fun W hW => pair_any D1 D4 k1 k4 ra rd x y W ((HLr.out _ (.tail _ (.tail _ (.tail _ (.head _))))).sl.below hW) ((HLr.out _ (.head _)).sl.below hW))
          have P4 : Hid (∀ W, Below wr.heap.size wr W → Calls Tryz.prog 10 #[.agg #[.slice D3 rc.length k3], .agg #[.slice D3 rc.length k3], .int .i64 x', .int .i64 y'] W fun e w' => e = .returned (.bool true) ∧ Below W.heap.size W w') := Lib.hid (fun W hW => pair_any D3 D3 k3 k3 rc rc x' y' W ((HLr.out _ (.tail _ (.head _))).sl.below hW) ((HLr.out _ (.tail _ (.head _))).sl.below hW))
          have M1 : Hid (∀ W, Below wr.heap.size wr W → Calls Tryz.prog 11 #[.int .i64 x, .int .i64 10] W fun e w' => e = .returned (.int .i64 x') ∧ Below W.heap.size W w') := Lib.hid (fun W _ => (HM1.out W).mono (by rintro e w' ⟨h, rfl⟩; exact ⟨h, Below.refl _ _⟩))
          have M2 : Hid (∀ W, Below wr.heap.size wr W → Calls Tryz.prog 11 #[.int .i64 y, .int .i64 10] W fun e w' => e = .returned (.int .i64 y') ∧ Below W.heap.size W w') := Lib.hid (fun W _ => (HM2.out W).mono (by rintro e w' ⟨h, rfl⟩; exact ⟨h, Below.refl _ _⟩))
          have K1 : Hid (∀ W, Below wr.heap.size wr W → Calls Tryz.prog 4 #[] W fun e w' => e = .returned (.bool true) ∧ Below W.heap.size W w') := Lib.hid (fun W _ => awake_any W)
          clear Hms hbr HM1 HM2 Hbr HLc
          go_upto_region 13 with fail
          refine wp_region_below wr.heap.size (Nat.le_refl _) (by kernel_rfl) (by kernel_rfl) ?_
          intro I _ F hFc hFb hFs
          have p5 := fun i => (hFc i (w.heap.size) 0 x5).trans z5
          have p6 := fun i => (hFc i (w.heap.size + 1) 0 x6).trans z6
          have p12 := fun i => (hFc i (w2.heap.size) 0 x12).trans z12
          have p13 := fun i => (hFc i (w2.heap.size + 1) 0 x13).trans z13
          repeat (go_big_quiet_step ((first
            | (go_at_call 10; first | (with_reducible exact class_call hFb hFs (Nat.le_refl _) (P1.out _ (hFb _))) | (with_reducible exact class_call hFb hFs (Nat.le_refl _) (P2.out _ (hFb _))) | (with_reducible exact class_call hFb hFs (Nat.le_refl _) (P3.out _ (hFb _))) | (with_reducible exact class_call hFb hFs (Nat.le_refl _) (P4.out _ (hFb _))))
            | (go_at_call 11; first | (with_reducible exact class_call hFb hFs (Nat.le_refl _) (M1.out _ (hFb _))) | (with_reducible exact class_call hFb hFs (Nat.le_refl _) (M2.out _ (hFb _))))
            | (go_at_call 4; first | (with_reducible exact class_call hFb hFs (Nat.le_refl _) (K1.out _ (hFb _)))))))
          refine wpQuiet_nil ?_
          rintro _ ⟨iq, rfl⟩
          generalize hw4 : F iq = w4
          have Hb4 : Hid (Below wr.heap.size wr w4) := Lib.hid (by rw [← hw4]; exact hFb iq)
          clear hw4 hFc hFb hFs
          go_wp2
          go_ret
          exact ⟨rfl, Hbe.out.trans (Hb4.out.mono hse)⟩
end Go.Proofs.YtmkopmcjilaedaaGreat
