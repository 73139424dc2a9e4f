/- Contract: the law's pair (printed by genV5.py). -/
import Derived.Test.YtmkopmcjilaedaaGreatV3
import Derived.Test.YtmkopmcjilaedaaGreatV4
import Derived.Test.YtmkopmcjilaedaaGreatVs
namespace Go.Proofs.YtmkopmcjilaedaaGreat
open Go.RowKit
set_option linter.unusedVariables false
set_option linter.unusedSimpArgs false

set_option maxHeartbeats 16000000 in
set_option maxRecDepth 100000 in
theorem pair_any (D1 D2 : Option Addr) (k1 k2 : Nat) (ra rb : List R4) (x y : Int) (w : World) (hA : SlR w D1 ra.length k1 ra) (hB : SlR w D2 rb.length k2 rb) :
    Calls Tryz.prog 10 #[.agg #[.slice D1 ra.length k1], .agg #[.slice D2 rb.length k2], .int .i64 x, .int .i64 y] w fun e w' => e = .returned (.bool true) ∧ Below w.heap.size w w' := by
  obtain ⟨⟨rp, ep⟩, hp⟩ : ∃ z, combineP orB ra rb = z := ⟨_, rfl⟩
  obtain ⟨⟨rq, eq⟩, hq⟩ : ∃ z, combineP andB ra rb = z := ⟨_, rfl⟩
  obtain ⟨⟨rn, en⟩, hn⟩ : ∃ z, combineP notB ra rb = z := ⟨_, rfl⟩
  have E1 := Lib.hid hp
  have E2 := Lib.hid hq
  have E3 := Lib.hid hn
  clear hp hq hn
  go_enter Tryz.func10, Tryz.ntmps10
  go_upto_region 1 with fail
  obtain ⟨wa, hwa⟩ : ∃ wa : World, wa = (w.alloc (.cells #[.slice D1 ra.length k1] 24)).alloc (.cells #[.slice D2 rb.length k2] 24) := ⟨_, rfl⟩
  rw [← hwa]
  have HLa : Hid (RBs wa [⟨w.heap.size + 1, D2, rb.length, k2, rb⟩, ⟨w.heap.size, D1, ra.length, k1, ra⟩]) := Lib.hid (by rw [hwa]; exact RBs.two w D1 D2 ra.length k1 rb.length k2 ra rb hA hB)
  have Hba : Hid (Below w.heap.size w wa) := Lib.hid (by rw [hwa]; exact (by repeat' (first | with_reducible exact Below.refl _ _ | with_reducible refine below_drewN ?_ _ | with_reducible refine Below.drew ?_ | with_reducible refine Below.alloc ?_ ?_ _ | with_reducible refine Below.setCell ?_ ?_ _ | with_reducible refine Below.trans ?_ (Below.mono (by with_reducible assumption) ?_) | (simp; done) | (simp; omega) | omega)))
  have hsa := Hba.out.size
  clear hwa hA hB
  have cx0 : wa.cell? ⟨w.heap.size, 0, none⟩ = some (.slice D1 ra.length k1) := (HLa.out _ (.tail _ (.head _))).c0
  have cy0 : wa.cell? ⟨w.heap.size + 1, 0, none⟩ = some (.slice D2 rb.length k2) := (HLa.out _ (.head _)).c0
  go_upto_region 2 with (first
    | (go_at_call 27
       have hq := union_any D1 D2 ra.length k1 rb.length k2 ra rb wa (HLa.out _ (.tail _ (.head _))).sl (HLa.out _ (.head _)).sl
       rw [E1.out] at hq
       refine hq.mono ?_
       rintro e wq0 ⟨vq0, rfl, hownq0, hbq0⟩
       obtain ⟨Dq0, kq0, rfl, hq0⟩ := SlR.of_own hownq0
       have HLq0 := Lib.hid (HLa.out.below hbq0)
       have Hsq0 := Lib.hid hq0
       have Hbq0 : Hid (Below w.heap.size w wq0) := Lib.hid (Hba.out.trans (hbq0.mono hsa))
       clear hq hownq0 hbq0 hq0)
    | fail)
  obtain ⟨wb, hwb⟩ : ∃ wb : World, wb = wq0.alloc (.cells #[.slice Dq0 rp.length kq0] 24) := ⟨_, rfl⟩
  rw [← hwb]
  have HLb := Lib.hid (HLq0.out.push Dq0 rp.length kq0 rp Hsq0.out)
  rw [← hwb] at HLb
  have Hbb : Hid (Below w.heap.size w wb) := Lib.hid (by rw [hwb]; exact Hbq0.out.alloc Hbq0.out.size _)
  have hsb := Hbb.out.size
  clear cx0 cy0 hwb HLq0 Hsq0 Hbq0 HLa Hba hsa
  have cx1 : wb.cell? ⟨w.heap.size, 0, none⟩ = some (.slice D1 ra.length k1) := (HLb.out _ (.tail _ (.tail _ (.head _)))).c0
  have cy1 : wb.cell? ⟨w.heap.size + 1, 0, none⟩ = some (.slice D2 rb.length k2) := (HLb.out _ (.tail _ (.head _))).c0
  go_upto_region 3 with (first
    | (go_at_call 28
       have hq := unionR_any D1 D2 ra.length k1 rb.length k2 ra rb wb (HLb.out _ (.tail _ (.tail _ (.head _)))).sl (HLb.out _ (.tail _ (.head _))).sl
       rw [E1.out] at hq
       refine hq.mono ?_
       rintro e wq1 ⟨vq1, rfl, hownq1, hbq1⟩
       obtain ⟨Dq1, kq1, rfl, hq1⟩ := SlR.of_own hownq1
       have HLq1 := Lib.hid (HLb.out.below hbq1)
       have Hsq1 := Lib.hid hq1
       have Hbq1 : Hid (Below w.heap.size w wq1) := Lib.hid (Hbb.out.trans (hbq1.mono hsb))
       clear hq hownq1 hbq1 hq1)
    | fail)
  obtain ⟨wc, hwc⟩ : ∃ wc : World, wc = wq1.alloc (.cells #[.slice Dq1 rp.length kq1] 24) := ⟨_, rfl⟩
  rw [← hwc]
  have HLc := Lib.hid (HLq1.out.push Dq1 rp.length kq1 rp Hsq1.out)
  rw [← hwc] at HLc
  have Hbc : Hid (Below w.heap.size w wc) := Lib.hid (by rw [hwc]; exact Hbq1.out.alloc Hbq1.out.size _)
  have hsc := Hbc.out.size
  clear cx1 cy1 hwc HLq1 Hsq1 Hbq1 HLb Hbb hsb
  have cx2 : wc.cell? ⟨w.heap.size, 0, none⟩ = some (.slice D1 ra.length k1) := (HLc.out _ (.tail _ (.tail _ (.tail _ (.head _))))).c0
  have cy2 : wc.cell? ⟨w.heap.size + 1, 0, none⟩ = some (.slice D2 rb.length k2) := (HLc.out _ (.tail _ (.tail _ (.head _)))).c0
  go_upto_region 4 with (first
    | (go_at_call 29
       have hq := both_any D1 D2 ra.length k1 rb.length k2 ra rb wc (HLc.out _ (.tail _ (.tail _ (.tail _ (.head _))))).sl (HLc.out _ (.tail _ (.tail _ (.head _)))).sl
       rw [E2.out] at hq
       refine hq.mono ?_
       rintro e wq2 ⟨vq2, rfl, hownq2, hbq2⟩
       obtain ⟨Dq2, kq2, rfl, hq2⟩ := SlR.of_own hownq2
       have HLq2 := Lib.hid (HLc.out.below hbq2)
       have Hsq2 := Lib.hid hq2
       have Hbq2 : Hid (Below w.heap.size w wq2) := Lib.hid (Hbc.out.trans (hbq2.mono hsc))
       clear hq hownq2 hbq2 hq2)
    | fail)
  obtain ⟨wd, hwd⟩ : ∃ wd : World, wd = wq2.alloc (.cells #[.slice Dq2 rq.length kq2] 24) := ⟨_, rfl⟩
  rw [← hwd]
  have HLd := Lib.hid (HLq2.out.push Dq2 rq.length kq2 rq Hsq2.out)
  rw [← hwd] at HLd
  have Hbd : Hid (Below w.heap.size w wd) := Lib.hid (by rw [hwd]; exact Hbq2.out.alloc Hbq2.out.size _)
  have hsd := Hbd.out.size
  clear cx2 cy2 hwd HLq2 Hsq2 Hbq2 HLc Hbc hsc
  have cx3 : wd.cell? ⟨w.heap.size, 0, none⟩ = some (.slice D1 ra.length k1) := (HLd.out _ (.tail _ (.tail _ (.tail _ (.tail _ (.head _)))))).c0
  have cy3 : wd.cell? ⟨w.heap.size + 1, 0, none⟩ = some (.slice D2 rb.length k2) := (HLd.out _ (.tail _ (.tail _ (.tail _ (.head _))))).c0
  go_upto_region 5 with (first
    | (go_at_call 30
       have hq := bothR_any D1 D2 ra.length k1 rb.length k2 ra rb wd (HLd.out _ (.tail _ (.tail _ (.tail _ (.tail _ (.head _)))))).sl (HLd.out _ (.tail _ (.tail _ (.tail _ (.head _))))).sl
       rw [E2.out] at hq
       refine hq.mono ?_
       rintro e wq3 ⟨vq3, rfl, hownq3, hbq3⟩
       obtain ⟨Dq3, kq3, rfl, hq3⟩ := SlR.of_own hownq3
       have HLq3 := Lib.hid (HLd.out.below hbq3)
       have Hsq3 := Lib.hid hq3
       have Hbq3 : Hid (Below w.heap.size w wq3) := Lib.hid (Hbd.out.trans (hbq3.mono hsd))
       clear hq hownq3 hbq3 hq3)
    | fail)
  obtain ⟨we, hwe⟩ : ∃ we : World, we = wq3.alloc (.cells #[.slice Dq3 rq.length kq3] 24) := ⟨_, rfl⟩
  rw [← hwe]
  have HLe := Lib.hid (HLq3.out.push Dq3 rq.length kq3 rq Hsq3.out)
  rw [← hwe] at HLe
  have Hbe : Hid (Below w.heap.size w we) := Lib.hid (by rw [hwe]; exact Hbq3.out.alloc Hbq3.out.size _)
  have hse := Hbe.out.size
  clear cx3 cy3 hwe HLq3 Hsq3 Hbq3 HLd Hbd hsd
  have cx4 : we.cell? ⟨w.heap.size, 0, none⟩ = some (.slice D1 ra.length k1) := (HLe.out _ (.tail _ (.tail _ (.tail _ (.tail _ (.tail _ (.head _))))))).c0
  have cy4 : we.cell? ⟨w.heap.size + 1, 0, none⟩ = some (.slice D2 rb.length k2) := (HLe.out _ (.tail _ (.tail _ (.tail _ (.tail _ (.head _)))))).c0
  go_upto_region 6 with (first
    | (go_at_call 31
       have hq := without_any D1 D2 ra.length k1 rb.length k2 ra rb we (HLe.out _ (.tail _ (.tail _ (.tail _ (.tail _ (.tail _ (.head _))))))).sl (HLe.out _ (.tail _ (.tail _ (.tail _ (.tail _ (.head _)))))).sl
       rw [E3.out] at hq
       refine hq.mono ?_
       rintro e wq4 ⟨vq4, rfl, hownq4, hbq4⟩
       obtain ⟨Dq4, kq4, rfl, hq4⟩ := SlR.of_own hownq4
       have HLq4 := Lib.hid (HLe.out.below hbq4)
       have Hsq4 := Lib.hid hq4
       have Hbq4 : Hid (Below w.heap.size w wq4) := Lib.hid (Hbe.out.trans (hbq4.mono hse))
       clear hq hownq4 hbq4 hq4)
    | fail)
  obtain ⟨wf, hwf⟩ : ∃ wf : World, wf = wq4.alloc (.cells #[.slice Dq4 rn.length kq4] 24) := ⟨_, rfl⟩
  rw [← hwf]
  have HLf := Lib.hid (HLq4.out.push Dq4 rn.length kq4 rn Hsq4.out)
  rw [← hwf] at HLf
  have Hbf : Hid (Below w.heap.size w wf) := Lib.hid (by rw [hwf]; exact Hbq4.out.alloc Hbq4.out.size _)
  have hsf := Hbf.out.size
  clear cx4 cy4 hwf HLq4 Hsq4 Hbq4 HLe Hbe hse
  have cx5 : wf.cell? ⟨w.heap.size, 0, none⟩ = some (.slice D1 ra.length k1) := (HLf.out _ (.tail _ (.tail _ (.tail _ (.tail _ (.tail _ (.tail _ (.head _)))))))).c0
  have cy5 : wf.cell? ⟨w.heap.size + 1, 0, none⟩ = some (.slice D2 rb.length k2) := (HLf.out _ (.tail _ (.tail _ (.tail _ (.tail _ (.tail _ (.head _))))))).c0
  go_upto_region 7 with (first
    | (go_at_call 32
       have hq := withoutR_any D1 D2 ra.length k1 rb.length k2 ra rb wf (HLf.out _ (.tail _ (.tail _ (.tail _ (.tail _ (.tail _ (.tail _ (.head _)))))))).sl (HLf.out _ (.tail _ (.tail _ (.tail _ (.tail _ (.tail _ (.head _))))))).sl
       rw [E3.out] at hq
       refine hq.mono ?_
       rintro e wq5 ⟨vq5, rfl, hownq5, hbq5⟩
       obtain ⟨Dq5, kq5, rfl, hq5⟩ := SlR.of_own hownq5
       have HLq5 := Lib.hid (HLf.out.below hbq5)
       have Hsq5 := Lib.hid hq5
       have Hbq5 : Hid (Below w.heap.size w wq5) := Lib.hid (Hbf.out.trans (hbq5.mono hsf))
       clear hq hownq5 hbq5 hq5)
    | fail)
  obtain ⟨wg, hwg⟩ : ∃ wg : World, wg = wq5.alloc (.cells #[.slice Dq5 rn.length kq5] 24) := ⟨_, rfl⟩
  rw [← hwg]
  have HLg := Lib.hid (HLq5.out.push Dq5 rn.length kq5 rn Hsq5.out)
  rw [← hwg] at HLg
  have Hbg : Hid (Below w.heap.size w wg) := Lib.hid (by rw [hwg]; exact Hbq5.out.alloc Hbq5.out.size _)
  have hsg := Hbg.out.size
  clear cx5 cy5 hwg HLq5 Hsq5 Hbq5 HLf Hbf hsf
  have z4 : wg.cell? ⟨w.heap.size, 0, none⟩ = some (.slice D1 ra.length k1) := (HLg.out _ (.tail _ (.tail _ (.tail _ (.tail _ (.tail _ (.tail _ (.tail _ (.head _))))))))).c0
  have y4 : w.heap.size < wg.heap.size := (HLg.out _ (.tail _ (.tail _ (.tail _ (.tail _ (.tail _ (.tail _ (.tail _ (.head _))))))))).lt
  have z5 : wg.cell? ⟨w.heap.size + 1, 0, none⟩ = some (.slice D2 rb.length k2) := (HLg.out _ (.tail _ (.tail _ (.tail _ (.tail _ (.tail _ (.tail _ (.head _)))))))).c0
  have y5 : w.heap.size + 1 < wg.heap.size := (HLg.out _ (.tail _ (.tail _ (.tail _ (.tail _ (.tail _ (.tail _ (.head _)))))))).lt
  have z9 : wg.cell? ⟨wq0.heap.size, 0, none⟩ = some (.slice Dq0 rp.length kq0) := (HLg.out _ (.tail _ (.tail _ (.tail _ (.tail _ (.tail _ (.head _))))))).c0
  have y9 : wq0.heap.size < wg.heap.size := (HLg.out _ (.tail _ (.tail _ (.tail _ (.tail _ (.tail _ (.head _))))))).lt
  have z11 : wg.cell? ⟨wq1.heap.size, 0, none⟩ = some (.slice Dq1 rp.length kq1) := (HLg.out _ (.tail _ (.tail _ (.tail _ (.tail _ (.head _)))))).c0
  have y11 : wq1.heap.size < wg.heap.size := (HLg.out _ (.tail _ (.tail _ (.tail _ (.tail _ (.head _)))))).lt
  have z13 : wg.cell? ⟨wq2.heap.size, 0, none⟩ = some (.slice Dq2 rq.length kq2) := (HLg.out _ (.tail _ (.tail _ (.tail _ (.head _))))).c0
  have y13 : wq2.heap.size < wg.heap.size := (HLg.out _ (.tail _ (.tail _ (.tail _ (.head _))))).lt
  have z15 : wg.cell? ⟨wq3.heap.size, 0, none⟩ = some (.slice Dq3 rq.length kq3) := (HLg.out _ (.tail _ (.tail _ (.head _)))).c0
  have y15 : wq3.heap.size < wg.heap.size := (HLg.out _ (.tail _ (.tail _ (.head _)))).lt
  have z17 : wg.cell? ⟨wq4.heap.size, 0, none⟩ = some (.slice Dq4 rn.length kq4) := (HLg.out _ (.tail _ (.head _))).c0
  have y17 : wq4.heap.size < wg.heap.size := (HLg.out _ (.tail _ (.head _))).lt
  have z19 : wg.cell? ⟨wq5.heap.size, 0, none⟩ = some (.slice Dq5 rn.length kq5) := (HLg.out _ (.head _)).c0
  have y19 : wq5.heap.size < wg.heap.size := (HLg.out _ (.head _)).lt
  have V1 : Hid (∀ W, Below wg.heap.size wg W → Calls Tryz.prog 14 #[.agg #[.slice D1 ra.length k1]] W fun e w' => e = .returned (.bool (validP ra)) ∧ Below W.heap.size W w') := Lib.hid (fun W hW => by have h := valid_any D1 ra.length k1 ra W ((HLg.out _ (.tail _ (.tail _ (.tail _ (.tail _ (.tail _ (.tail _ (.tail _ (.head _))))))))).sl.below hW); exact h)
  have V2 : Hid (∀ W, Below wg.heap.size wg W → Calls Tryz.prog 33 #[.agg #[.slice D1 ra.length k1]] W fun e w' => e = .returned (.bool (validP ra)) ∧ Below W.heap.size W w') := Lib.hid (fun W hW => by have h := validR_any D1 ra.length k1 ra W ((HLg.out _ (.tail _ (.tail _ (.tail _ (.tail _ (.tail _ (.tail _ (.tail _ (.head _))))))))).sl.below hW); exact h)
  have S1 : Hid (∀ W, Below wg.heap.size wg W → Calls Tryz.prog 9 #[.agg #[.slice Dq0 rp.length kq0], .agg #[.slice Dq1 rp.length kq1]] W fun e w' => e = .returned (.bool (true)) ∧ Below W.heap.size W w') := Lib.hid (fun W hW => by have h := sameRef_any Dq0 Dq1 rp.length kq0 rp.length kq1 rp rp W ((HLg.out _ (.tail _ (.tail _ (.tail _ (.tail _ (.tail _ (.head _))))))).sl.below hW) ((HLg.out _ (.tail _ (.tail _ (.tail _ (.tail _ (.head _)))))).sl.below hW); rw [decide_eq_true rfl] at h; exact h)
  have S2 : Hid (∀ W, Below wg.heap.size wg W → Calls Tryz.prog 9 #[.agg #[.slice Dq2 rq.length kq2], .agg #[.slice Dq3 rq.length kq3]] W fun e w' => e = .returned (.bool (true)) ∧ Below W.heap.size W w') := Lib.hid (fun W hW => by have h := sameRef_any Dq2 Dq3 rq.length kq2 rq.length kq3 rq rq W ((HLg.out _ (.tail _ (.tail _ (.tail _ (.head _))))).sl.below hW) ((HLg.out _ (.tail _ (.tail _ (.head _)))).sl.below hW); rw [decide_eq_true rfl] at h; exact h)
  have S3 : Hid (∀ W, Below wg.heap.size wg W → Calls Tryz.prog 9 #[.agg #[.slice Dq4 rn.length kq4], .agg #[.slice Dq5 rn.length kq5]] W fun e w' => e = .returned (.bool (true)) ∧ Below W.heap.size W w') := Lib.hid (fun W hW => by have h := sameRef_any Dq4 Dq5 rn.length kq4 rn.length kq5 rn rn W ((HLg.out _ (.tail _ (.head _))).sl.below hW) ((HLg.out _ (.head _)).sl.below hW); rw [decide_eq_true rfl] at h; exact h)
  have A1 : Hid (∀ W, Below wg.heap.size wg W → Calls Tryz.prog 13 #[.agg #[.slice D1 ra.length k1]] W fun e w' => e = .returned (.int .i64 (areaP ra)) ∧ Below W.heap.size W w') := Lib.hid (fun W hW => by have h := area_any D1 ra.length k1 ra W ((HLg.out _ (.tail _ (.tail _ (.tail _ (.tail _ (.tail _ (.tail _ (.tail _ (.head _))))))))).sl.below hW); exact h)
  have A2 : Hid (∀ W, Below wg.heap.size wg W → Calls Tryz.prog 34 #[.agg #[.slice D1 ra.length k1]] W fun e w' => e = .returned (.int .i64 (areaP ra)) ∧ Below W.heap.size W w') := Lib.hid (fun W hW => by have h := areaR_any D1 ra.length k1 ra W ((HLg.out _ (.tail _ (.tail _ (.tail _ (.tail _ (.tail _ (.tail _ (.tail _ (.head _))))))))).sl.below hW); exact h)
  have K1 : Hid (∀ W, Below wg.heap.size wg W → Calls Tryz.prog 15 #[.agg #[.slice D1 ra.length k1], .int .i64 x, .int .i64 y] W fun e w' => e = .returned (.bool (hasP ra x y)) ∧ Below W.heap.size W w') := Lib.hid (fun W hW => by have h := has_any D1 ra.length k1 ra x y W ((HLg.out _ (.tail _ (.tail _ (.tail _ (.tail _ (.tail _ (.tail _ (.tail _ (.head _))))))))).sl.below hW); exact h)
  have K2 : Hid (∀ W, Below wg.heap.size wg W → Calls Tryz.prog 35 #[.agg #[.slice D1 ra.length k1], .int .i64 x, .int .i64 y] W fun e w' => e = .returned (.bool (hasP ra x y)) ∧ Below W.heap.size W w') := Lib.hid (fun W hW => by have h := hasR_any D1 ra.length k1 ra x y W ((HLg.out _ (.tail _ (.tail _ (.tail _ (.tail _ (.tail _ (.tail _ (.tail _ (.head _))))))))).sl.below hW); exact h)
  have I1 : Hid (∀ W, Below wg.heap.size wg W → Calls Tryz.prog 36 #[.agg #[.slice D1 ra.length k1], .agg #[.slice D2 rb.length k2]] W fun e w' => e = .returned (.bool (withinP ra rb)) ∧ Below W.heap.size W w') := Lib.hid (fun W hW => by have h := within_any D1 D2 ra.length k1 rb.length k2 ra rb W ((HLg.out _ (.tail _ (.tail _ (.tail _ (.tail _ (.tail _ (.tail _ (.tail _ (.head _))))))))).sl.below hW) ((HLg.out _ (.tail _ (.tail _ (.tail _ (.tail _ (.tail _ (.tail _ (.head _)))))))).sl.below hW); exact h)
  have I2 : Hid (∀ W, Below wg.heap.size wg W → Calls Tryz.prog 37 #[.agg #[.slice D1 ra.length k1], .agg #[.slice D2 rb.length k2]] W fun e w' => e = .returned (.bool (withinP ra rb)) ∧ Below W.heap.size W w') := Lib.hid (fun W hW => by have h := withinR_any D1 D2 ra.length k1 rb.length k2 ra rb W ((HLg.out _ (.tail _ (.tail _ (.tail _ (.tail _ (.tail _ (.tail _ (.tail _ (.head _))))))))).sl.below hW) ((HLg.out _ (.tail _ (.tail _ (.tail _ (.tail _ (.tail _ (.tail _ (.head _)))))))).sl.below hW); exact h)
  have M1 : Hid (∀ W, Below wg.heap.size wg W → Calls Tryz.prog 38 #[.agg #[.slice D1 ra.length k1], .agg #[.slice D2 rb.length k2]] W fun e w' => e = .returned (.bool (meetsP ra rb)) ∧ Below W.heap.size W w') := Lib.hid (fun W hW => by have h := meets_any D1 D2 ra.length k1 rb.length k2 ra rb W ((HLg.out _ (.tail _ (.tail _ (.tail _ (.tail _ (.tail _ (.tail _ (.tail _ (.head _))))))))).sl.below hW) ((HLg.out _ (.tail _ (.tail _ (.tail _ (.tail _ (.tail _ (.tail _ (.head _)))))))).sl.below hW); exact h)
  have M2 : Hid (∀ W, Below wg.heap.size wg W → Calls Tryz.prog 39 #[.agg #[.slice D1 ra.length k1], .agg #[.slice D2 rb.length k2]] W fun e w' => e = .returned (.bool (meetsP ra rb)) ∧ Below W.heap.size W w') := Lib.hid (fun W hW => by have h := meetsR_any D1 D2 ra.length k1 rb.length k2 ra rb W ((HLg.out _ (.tail _ (.tail _ (.tail _ (.tail _ (.tail _ (.tail _ (.tail _ (.head _))))))))).sl.below hW) ((HLg.out _ (.tail _ (.tail _ (.tail _ (.tail _ (.tail _ (.tail _ (.head _)))))))).sl.below hW); exact h)
  have T1 : Hid (∀ W, Below wg.heap.size wg W → Calls Tryz.prog 40 #[.agg #[.slice D1 ra.length k1], .agg #[.slice D2 rb.length k2]] W fun e w' => e = .returned (.bool (decide (ra = rb))) ∧ Below W.heap.size W w') := Lib.hid (fun W hW => by have h := sameP_any D1 D2 ra.length k1 rb.length k2 ra rb W ((HLg.out _ (.tail _ (.tail _ (.tail _ (.tail _ (.tail _ (.tail _ (.tail _ (.head _))))))))).sl.below hW) ((HLg.out _ (.tail _ (.tail _ (.tail _ (.tail _ (.tail _ (.tail _ (.head _)))))))).sl.below hW); exact h)
  have T2 : Hid (∀ W, Below wg.heap.size wg W → Calls Tryz.prog 9 #[.agg #[.slice D1 ra.length k1], .agg #[.slice D2 rb.length k2]] W fun e w' => e = .returned (.bool (decide (ra = rb))) ∧ Below W.heap.size W w') := Lib.hid (fun W hW => by have h := sameRef_any D1 D2 ra.length k1 rb.length k2 ra rb W ((HLg.out _ (.tail _ (.tail _ (.tail _ (.tail _ (.tail _ (.tail _ (.tail _ (.head _))))))))).sl.below hW) ((HLg.out _ (.tail _ (.tail _ (.tail _ (.tail _ (.tail _ (.tail _ (.head _)))))))).sl.below hW); exact h)
  generalize validP ra = va at *
  generalize areaP ra = ar at *
  generalize hasP ra x y = hh at *
  generalize withinP ra rb = wi at *
  generalize meetsP ra rb = me at *
  generalize decide (ra = rb) = sa at *
  refine wp_region_below wg.heap.size (Nat.le_refl _) (by kernel_rfl) (by kernel_rfl) ?_
  intro I _ F hFc hFb hFs
  have p4 := fun i => (hFc i (w.heap.size) 0 y4).trans z4
  have p5 := fun i => (hFc i (w.heap.size + 1) 0 y5).trans z5
  have p9 := fun i => (hFc i (wq0.heap.size) 0 y9).trans z9
  have p11 := fun i => (hFc i (wq1.heap.size) 0 y11).trans z11
  have p13 := fun i => (hFc i (wq2.heap.size) 0 y13).trans z13
  have p15 := fun i => (hFc i (wq3.heap.size) 0 y15).trans z15
  have p17 := fun i => (hFc i (wq4.heap.size) 0 y17).trans z17
  have p19 := fun i => (hFc i (wq5.heap.size) 0 y19).trans z19
  dsimp only [List.append]
  repeat (go_big_quiet_step ((first
    | (go_at_call 14; first | (with_reducible exact class_call hFb hFs (Nat.le_refl _) (V1.out _ (hFb _))))
    | (go_at_call 33; first | (with_reducible exact class_call hFb hFs (Nat.le_refl _) (V2.out _ (hFb _))))
    | (go_at_call 9; first | (with_reducible exact class_call hFb hFs (Nat.le_refl _) (S1.out _ (hFb _))) | (with_reducible exact class_call hFb hFs (Nat.le_refl _) (S2.out _ (hFb _))) | (with_reducible exact class_call hFb hFs (Nat.le_refl _) (S3.out _ (hFb _))) | (with_reducible exact class_call hFb hFs (Nat.le_refl _) (T2.out _ (hFb _))))
    | (go_at_call 13; first | (with_reducible exact class_call hFb hFs (Nat.le_refl _) (A1.out _ (hFb _))))
    | (go_at_call 34; first | (with_reducible exact class_call hFb hFs (Nat.le_refl _) (A2.out _ (hFb _))))
    | (go_at_call 15; first | (with_reducible exact class_call hFb hFs (Nat.le_refl _) (K1.out _ (hFb _))))
    | (go_at_call 35; first | (with_reducible exact class_call hFb hFs (Nat.le_refl _) (K2.out _ (hFb _))))
    | (go_at_call 36; first | (with_reducible exact class_call hFb hFs (Nat.le_refl _) (I1.out _ (hFb _))))
    | (go_at_call 37; first | (with_reducible exact class_call hFb hFs (Nat.le_refl _) (I2.out _ (hFb _))))
    | (go_at_call 38; first | (with_reducible exact class_call hFb hFs (Nat.le_refl _) (M1.out _ (hFb _))))
    | (go_at_call 39; first | (with_reducible exact class_call hFb hFs (Nat.le_refl _) (M2.out _ (hFb _))))
    | (go_at_call 40; first | (with_reducible exact class_call hFb hFs (Nat.le_refl _) (T1.out _ (hFb _)))))))
  refine wpQuiet_nil ?_
  rintro _ ⟨iq, rfl⟩
  generalize hw4 : F iq = w4
  have Hb4 : Hid (Below wg.heap.size wg w4) := Lib.hid (by rw [← hw4]; exact hFb iq)
  clear hw4 hFc hFb hFs
  go_wp2
  go_ret
  exact ⟨rfl, Hbg.out.trans (Hb4.out.mono hsg)⟩
end Go.Proofs.YtmkopmcjilaedaaGreat
