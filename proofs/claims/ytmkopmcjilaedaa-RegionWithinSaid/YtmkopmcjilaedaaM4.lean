/- RegionWithin: the walk. -/
import Derived.Test.YtmkopmcjilaedaaU7
namespace Go.Proofs.Ytmkopmcjilaedaa
open Go.RowKit
set_option linter.unusedVariables false
set_option linter.unusedSimpArgs false

/-- What the regions of RegionWithin are. -/
structure WiE (a b r s u : List R4) : Prop where
  e1 : combineP notB a b = (r, 0)
  e2 : combineP andB a b = (s, 0)
  e3 : combineP orB a b = (u, 0)
  w1 : withinP a b = decide (areaP r = 0)
  m1 : meetsP a b = decide (0 < areaP s)
  w2 : withinP a b = decide (u = b)
  w3 : withinP s a = true
  w4 : withinP a u = true
theorem within_all {a b : List R4} (ha : Reg (6 : Nat) 6 a) (hb : Reg (6 : Nat) 15 b) : ∃ r s u, WiE a b r s u := by
  obtain ⟨h1, h2, h3, h4, h5⟩ := within_law 6 6 15 (by omega) (by omega) (by omega) ha hb
  exact ⟨_, _, _, combine_reg notB rfl 6 6 15 (by omega) (by omega) (by omega) ha hb, combine_reg andB rfl 6 6 15 (by omega) (by omega) (by omega) ha hb, combine_reg orB rfl 6 6 15 (by omega) (by omega) (by omega) ha hb, h1, h2, h3, h4, h5⟩

set_option maxHeartbeats 16000000 in
set_option maxRecDepth 100000 in
theorem withinLaw (A : Option Addr) (n c : Nat) (zs : List Int) (w : World) (hn : zs.length = n) (hc : n ≤ c) (hm : c ≤ maxLen) (hw : ∀ z ∈ zs, (Lit.int .i64 z).wf = true) (hA : Lies w A n (zs.map (.int .i64))) :
    Calls Try.prog 6 #[.slice A n c] w fun e w' => e = .returned (.bool true) ∧ Below w.heap.size w w' := by
  have HN := Lib.hid (new_any A n c zs w hn hc hm hw hA)
  clear hn hw hA
  go_enter Try.func6, Try.ntmps6
  go_wp2_with fail
  refine HN.out.mono ?_
  rintro e w0 ⟨g, rfl, hg, ht, hb0⟩
  generalize zs.take 400 = r at *
  have hlt := ht.lt
  go_wp2_with fail
  refine (region_any g r 6 2 _ ht (by omega) (by omega)).mono ?_
  rintro e w1 ⟨v1, rfl, hown1, ht1, hg1⟩
  have Ra : Hid (Reg (6 : Nat) 6 (mkReg r 6 2).1) := Lib.hid (mkReg_reg r 6 2 (by omega) (by omega) (by omega) (by omega))
  generalize (mkReg r 6 2).1 = ra at *
  generalize (mkReg r 6 2).2 = r1 at *
  have Hb1 : Hid (Below w.heap.size w w1) := Lib.hid (below_only hb0 hg1 hg hb0.size)
  have hlt1 := ht1.lt
  have Hown1 := Lib.hid hown1
  clear hg1 ht hown1
  go_wp2_with fail
  refine (region_any g r1 6 3 _ ht1 (by omega) (by omega)).mono ?_
  rintro e w2 ⟨v2, rfl, hown2, ht2, hg2⟩
  have Rb : Hid (Reg (6 : Nat) 15 (mkReg r1 6 3).1) := Lib.hid (mkReg_reg r1 6 3 (by omega) (by omega) (by omega) (by omega))
  generalize (mkReg r1 6 3).1 = rb at *
  generalize (mkReg r1 6 3).2 = r2 at *
  have Hb2 : Hid (Below w.heap.size w w2) := Lib.hid (below_only Hb1.out hg2 hg Hb1.out.size)
  obtain ⟨D1, k1, rfl, h1⟩ := SlR.of_own (ownsRow_only Hown1.out hg2 hlt)
  obtain ⟨D2, k2, rfl, h2⟩ := SlR.of_own hown2
  have Hs1 := Lib.hid h1
  have Hs2 := Lib.hid h2
  clear hown2 ht1 ht2 hg2 Hown1 h1 h2 HN hb0 hlt hlt1
  obtain ⟨rr, rs, ru, hE⟩ := within_all Ra.out Rb.out
  have HE := Lib.hid hE
  clear hE Ra Rb
  have hs2 := Hb2.out.size
  go_upto_region 3 with fail
  obtain ⟨wa, hwa⟩ : ∃ wa : World, wa = (w2.alloc (.cells #[.slice D1 ra.length k1] 27)).alloc (.cells #[.slice D2 rb.length k2] 27) := ⟨_, rfl⟩
  rw [← hwa]
  have HLa : Hid (RBs wa [⟨w2.heap.size + 1, D2, rb.length, k2, rb⟩, ⟨w2.heap.size, D1, ra.length, k1, ra⟩]) := Lib.hid (by rw [hwa]; exact RBs.two w2 D1 D2 ra.length k1 rb.length k2 ra rb Hs1.out Hs2.out)
  have Hba : Hid (Below w.heap.size w wa) := Lib.hid (by rw [hwa]; exact Hb2.out.trans (Below.mono (by repeat' (first | with_reducible exact Below.refl _ _ | with_reducible refine below_drewN ?_ _ | with_reducible refine Below.drew ?_ | with_reducible refine Below.alloc ?_ ?_ _ | with_reducible refine Below.setCell ?_ ?_ _ | with_reducible refine Below.trans ?_ (Below.mono (by with_reducible assumption) ?_) | (simp; done) | (simp; omega) | omega)) hs2))
  have hsa := Hba.out.size
  clear hwa Hs1 Hs2 Hb2
  have cx0 : wa.cell? ⟨w2.heap.size, 0, none⟩ = some (.slice D1 ra.length k1) := (HLa.out _ (.tail _ (.head _))).c0
  have cy0 : wa.cell? ⟨w2.heap.size + 1, 0, none⟩ = some (.slice D2 rb.length k2) := (HLa.out _ (.head _)).c0
  go_upto_region 4 with (first
    | (go_at_call 15
       have hq := without_any D1 D2 ra.length k1 rb.length k2 ra rb wa (HLa.out _ (.tail _ (.head _))).sl (HLa.out _ (.head _)).sl
       rw [HE.out.e1] at hq
       refine hq.mono ?_
       rintro e wq0 ⟨vq0, rfl, hownq0, hbq0⟩
       obtain ⟨Dq0, kq0, rfl, hq0⟩ := SlR.of_own hownq0
       have HLq0 := Lib.hid (HLa.out.below hbq0)
       have Hsq0 := Lib.hid hq0
       have Hbq0 : Hid (Below w.heap.size w wq0) := Lib.hid (Hba.out.trans (hbq0.mono hsa))
       clear hq hownq0 hbq0 hq0)
    | fail)
  obtain ⟨wb, hwb⟩ : ∃ wb : World, wb = wq0.alloc (.cells #[.slice Dq0 rr.length kq0] 27) := ⟨_, rfl⟩
  rw [← hwb]
  have HLb := Lib.hid (HLq0.out.push Dq0 rr.length kq0 rr Hsq0.out)
  rw [← hwb] at HLb
  have Hbb : Hid (Below w.heap.size w wb) := Lib.hid (by rw [hwb]; exact Hbq0.out.alloc Hbq0.out.size _)
  have hsb := Hbb.out.size
  clear cx0 cy0 hwb HLq0 Hsq0 Hbq0 HLa Hba hsa
  have cx1 : wb.cell? ⟨w2.heap.size, 0, none⟩ = some (.slice D1 ra.length k1) := (HLb.out _ (.tail _ (.tail _ (.head _)))).c0
  have cy1 : wb.cell? ⟨w2.heap.size + 1, 0, none⟩ = some (.slice D2 rb.length k2) := (HLb.out _ (.tail _ (.head _))).c0
  go_upto_region 5 with (first
    | (go_at_call 14
       have hq := both_any D1 D2 ra.length k1 rb.length k2 ra rb wb (HLb.out _ (.tail _ (.tail _ (.head _)))).sl (HLb.out _ (.tail _ (.head _))).sl
       rw [HE.out.e2] at hq
       refine hq.mono ?_
       rintro e wq1 ⟨vq1, rfl, hownq1, hbq1⟩
       obtain ⟨Dq1, kq1, rfl, hq1⟩ := SlR.of_own hownq1
       have HLq1 := Lib.hid (HLb.out.below hbq1)
       have Hsq1 := Lib.hid hq1
       have Hbq1 : Hid (Below w.heap.size w wq1) := Lib.hid (Hbb.out.trans (hbq1.mono hsb))
       clear hq hownq1 hbq1 hq1)
    | fail)
  obtain ⟨wc, hwc⟩ : ∃ wc : World, wc = wq1.alloc (.cells #[.slice Dq1 rs.length kq1] 27) := ⟨_, rfl⟩
  rw [← hwc]
  have HLc := Lib.hid (HLq1.out.push Dq1 rs.length kq1 rs Hsq1.out)
  rw [← hwc] at HLc
  have Hbc : Hid (Below w.heap.size w wc) := Lib.hid (by rw [hwc]; exact Hbq1.out.alloc Hbq1.out.size _)
  have hsc := Hbc.out.size
  clear cx1 cy1 hwc HLq1 Hsq1 Hbq1 HLb Hbb hsb
  have cx2 : wc.cell? ⟨w2.heap.size, 0, none⟩ = some (.slice D1 ra.length k1) := (HLc.out _ (.tail _ (.tail _ (.tail _ (.head _))))).c0
  have cy2 : wc.cell? ⟨w2.heap.size + 1, 0, none⟩ = some (.slice D2 rb.length k2) := (HLc.out _ (.tail _ (.tail _ (.head _)))).c0
  go_upto_region 6 with (first
    | (go_at_call 13
       have hq := union_any D1 D2 ra.length k1 rb.length k2 ra rb wc (HLc.out _ (.tail _ (.tail _ (.tail _ (.head _))))).sl (HLc.out _ (.tail _ (.tail _ (.head _)))).sl
       rw [HE.out.e3] at hq
       refine hq.mono ?_
       rintro e wq2 ⟨vq2, rfl, hownq2, hbq2⟩
       obtain ⟨Dq2, kq2, rfl, hq2⟩ := SlR.of_own hownq2
       have HLq2 := Lib.hid (HLc.out.below hbq2)
       have Hsq2 := Lib.hid hq2
       have Hbq2 : Hid (Below w.heap.size w wq2) := Lib.hid (Hbc.out.trans (hbq2.mono hsc))
       clear hq hownq2 hbq2 hq2)
    | fail)
  obtain ⟨wd, hwd⟩ : ∃ wd : World, wd = wq2.alloc (.cells #[.slice Dq2 ru.length kq2] 27) := ⟨_, rfl⟩
  rw [← hwd]
  have HLd := Lib.hid (HLq2.out.push Dq2 ru.length kq2 ru Hsq2.out)
  rw [← hwd] at HLd
  have Hbd : Hid (Below w.heap.size w wd) := Lib.hid (by rw [hwd]; exact Hbq2.out.alloc Hbq2.out.size _)
  have hsd := Hbd.out.size
  clear cx2 cy2 hwd HLq2 Hsq2 Hbq2 HLc Hbc hsc
  have z4 : wd.cell? ⟨w2.heap.size, 0, none⟩ = some (.slice D1 ra.length k1) := (HLd.out _ (.tail _ (.tail _ (.tail _ (.tail _ (.head _)))))).c0
  have y4 : w2.heap.size < wd.heap.size := (HLd.out _ (.tail _ (.tail _ (.tail _ (.tail _ (.head _)))))).lt
  have z5 : wd.cell? ⟨w2.heap.size + 1, 0, none⟩ = some (.slice D2 rb.length k2) := (HLd.out _ (.tail _ (.tail _ (.tail _ (.head _))))).c0
  have y5 : w2.heap.size + 1 < wd.heap.size := (HLd.out _ (.tail _ (.tail _ (.tail _ (.head _))))).lt
  have z6 : wd.cell? ⟨wq0.heap.size, 0, none⟩ = some (.slice Dq0 rr.length kq0) := (HLd.out _ (.tail _ (.tail _ (.head _)))).c0
  have y6 : wq0.heap.size < wd.heap.size := (HLd.out _ (.tail _ (.tail _ (.head _)))).lt
  have z8 : wd.cell? ⟨wq1.heap.size, 0, none⟩ = some (.slice Dq1 rs.length kq1) := (HLd.out _ (.tail _ (.head _))).c0
  have y8 : wq1.heap.size < wd.heap.size := (HLd.out _ (.tail _ (.head _))).lt
  have z10 : wd.cell? ⟨wq2.heap.size, 0, none⟩ = some (.slice Dq2 ru.length kq2) := (HLd.out _ (.head _)).c0
  have y10 : wq2.heap.size < wd.heap.size := (HLd.out _ (.head _)).lt
  have W1 : Hid (∀ W, Below wd.heap.size wd W → Calls Try.prog 19 #[.agg #[.slice D1 ra.length k1], .agg #[.slice D2 rb.length k2]] W fun e w' => e = .returned (.bool (decide (areaP rr = 0))) ∧ Below W.heap.size W w') := Lib.hid (fun W hW => by have h := within_any D1 D2 ra.length k1 rb.length k2 ra rb W ((HLd.out _ (.tail _ (.tail _ (.tail _ (.tail _ (.head _)))))).sl.below hW) ((HLd.out _ (.tail _ (.tail _ (.tail _ (.head _))))).sl.below hW); rw [HE.out.w1] at h; exact h)
  have W3 : Hid (∀ W, Below wd.heap.size wd W → Calls Try.prog 19 #[.agg #[.slice Dq1 rs.length kq1], .agg #[.slice D1 ra.length k1]] W fun e w' => e = .returned (.bool true) ∧ Below W.heap.size W w') := Lib.hid (fun W hW => by have h := within_any Dq1 D1 rs.length kq1 ra.length k1 rs ra W ((HLd.out _ (.tail _ (.head _))).sl.below hW) ((HLd.out _ (.tail _ (.tail _ (.tail _ (.tail _ (.head _)))))).sl.below hW); rw [HE.out.w3] at h; exact h)
  have W4 : Hid (∀ W, Below wd.heap.size wd W → Calls Try.prog 19 #[.agg #[.slice D1 ra.length k1], .agg #[.slice Dq2 ru.length kq2]] W fun e w' => e = .returned (.bool true) ∧ Below W.heap.size W w') := Lib.hid (fun W hW => by have h := within_any D1 Dq2 ra.length k1 ru.length kq2 ra ru W ((HLd.out _ (.tail _ (.tail _ (.tail _ (.tail _ (.head _)))))).sl.below hW) ((HLd.out _ (.head _)).sl.below hW); rw [HE.out.w4] at h; exact h)
  have M1 : Hid (∀ W, Below wd.heap.size wd W → Calls Try.prog 20 #[.agg #[.slice D1 ra.length k1], .agg #[.slice D2 rb.length k2]] W fun e w' => e = .returned (.bool (decide (0 < areaP rs))) ∧ Below W.heap.size W w') := Lib.hid (fun W hW => by have h := meets_any D1 D2 ra.length k1 rb.length k2 ra rb W ((HLd.out _ (.tail _ (.tail _ (.tail _ (.tail _ (.head _)))))).sl.below hW) ((HLd.out _ (.tail _ (.tail _ (.tail _ (.head _))))).sl.below hW); rw [HE.out.m1] at h; exact h)
  have S1 : Hid (∀ W, Below wd.heap.size wd W → Calls Try.prog 10 #[.agg #[.slice Dq2 ru.length kq2], .agg #[.slice D2 rb.length k2]] W fun e w' => e = .returned (.bool (decide (areaP rr = 0))) ∧ Below W.heap.size W w') := Lib.hid (fun W hW => by have h := sameP_any Dq2 D2 ru.length kq2 rb.length k2 ru rb W ((HLd.out _ (.head _)).sl.below hW) ((HLd.out _ (.tail _ (.tail _ (.tail _ (.head _))))).sl.below hW); rw [← HE.out.w2, HE.out.w1] at h; exact h)
  have AR : Hid (∀ W, Below wd.heap.size wd W → Calls Try.prog 18 #[.agg #[.slice Dq0 rr.length kq0]] W fun e w' => e = .returned (.int .i64 (areaP rr)) ∧ Below W.heap.size W w') := Lib.hid (fun W hW => area_any Dq0 rr.length kq0 rr W ((HLd.out _ (.tail _ (.tail _ (.head _)))).sl.below hW))
  have AS : Hid (∀ W, Below wd.heap.size wd W → Calls Try.prog 18 #[.agg #[.slice Dq1 rs.length kq1]] W fun e w' => e = .returned (.int .i64 (areaP rs)) ∧ Below W.heap.size W w') := Lib.hid (fun W hW => area_any Dq1 rs.length kq1 rs W ((HLd.out _ (.tail _ (.head _))).sl.below hW))
  have HW : Hid (∀ W, Below wd.heap.size wd W → Calls Try.prog 12 #[] W fun e w' => e = .returned (.bool true) ∧ Below W.heap.size W w') := Lib.hid (fun W _ => awake_any W)
  clear HE
  generalize areaP rr = ar at *
  generalize areaP rs = az at *
  have t1 : (ar == 0) = decide (ar = 0) := by rw [Bool.eq_iff_iff]; simp
  obtain ⟨wi, hwi⟩ : ∃ wi, decide (ar = 0) = wi := ⟨_, rfl⟩
  obtain ⟨me, hme⟩ : ∃ me, decide (0 < az) = me := ⟨_, rfl⟩
  rw [hwi] at W1 S1 t1
  rw [hme] at M1
  refine wp_region_below wd.heap.size (Nat.le_refl _) (by kernel_rfl) (by kernel_rfl) ?_
  intro I _ F hFc hFb hFs
  have p4 := fun i => (hFc i (w2.heap.size) 0 y4).trans z4
  have p5 := fun i => (hFc i (w2.heap.size + 1) 0 y5).trans z5
  have p6 := fun i => (hFc i (wq0.heap.size) 0 y6).trans z6
  have p8 := fun i => (hFc i (wq1.heap.size) 0 y8).trans z8
  have p10 := fun i => (hFc i (wq2.heap.size) 0 y10).trans z10
  repeat (go_big_quiet_step ((first
    | (go_at_call 19; first | (with_reducible exact class_call hFb hFs (Nat.le_refl _) (W1.out _ (hFb _))) | (with_reducible exact class_call hFb hFs (Nat.le_refl _) (W3.out _ (hFb _))) | (with_reducible exact class_call hFb hFs (Nat.le_refl _) (W4.out _ (hFb _))))
    | (go_at_call 20; first | (with_reducible exact class_call hFb hFs (Nat.le_refl _) (M1.out _ (hFb _))))
    | (go_at_call 10; first | (with_reducible exact class_call hFb hFs (Nat.le_refl _) (S1.out _ (hFb _))))
    | (go_at_call 18; first | (with_reducible exact class_call hFb hFs (Nat.le_refl _) (AR.out _ (hFb _))) | (with_reducible exact class_call hFb hFs (Nat.le_refl _) (AS.out _ (hFb _))))
    | (go_at_call 12; first | (with_reducible exact class_call hFb hFs (Nat.le_refl _) (HW.out _ (hFb _)))))))
  refine wpQuiet_nil ?_
  rintro _ ⟨iq, rfl⟩
  generalize hw4 : F iq = w4
  have Hb4 : Hid (Below wd.heap.size wd w4) := Lib.hid (by rw [← hw4]; exact hFb iq)
  clear hw4 hFc hFb hFs
  go_wp2
  go_ret
  exact ⟨rfl, Hbd.out.trans (Hb4.out.mono hsd)⟩
end Go.Proofs.Ytmkopmcjilaedaa
