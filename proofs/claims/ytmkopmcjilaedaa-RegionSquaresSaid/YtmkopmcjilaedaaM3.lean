/- RegionSquares: the walk. -/
import Derived.Test.YtmkopmcjilaedaaU6
namespace Go.Proofs.Ytmkopmcjilaedaa
open Go.RowKit
set_option linter.unusedVariables false
set_option linter.unusedSimpArgs false

set_option maxHeartbeats 16000000 in
set_option maxRecDepth 100000 in
theorem squaresLaw (A : Option Addr) (n c : Nat) (zs : List Int) (w : World) (hn : zs.length = n) (hc : n ≤ c) (hm : c ≤ maxLen) (hw : ∀ z ∈ zs, (Lit.int .i64 z).wf = true) (hA : Lies w A n (zs.map (.int .i64))) :
    Calls Try.prog 4 #[.slice A n c] w fun e w' => e = .returned (.bool true) ∧ Below w.heap.size w w' := by
  have HN := Lib.hid (new_any A n c zs w hn hc hm hw hA)
  clear hn hw hA
  go_enter Try.func4, Try.ntmps4
  go_wp2_with fail
  refine HN.out.mono ?_
  rintro e w0 ⟨g, rfl, hg, ht, hb0⟩
  generalize zs.take 400 = r at *
  have hlt := ht.lt
  go_wp2_with fail
  refine (region_any g r 7 4 _ ht (by omega) (by omega)).mono ?_
  rintro e w1 ⟨v1, rfl, hown1, ht1, hg1⟩
  have Ra := Lib.hid (tape_reg7 r)
  generalize (mkReg r 7 4).1 = ra at *
  generalize (mkReg r 7 4).2 = r1 at *
  have Hb1 : Hid (Below w.heap.size w w1) := Lib.hid (below_only hb0 hg1 hg hb0.size)
  have hlt1 := ht1.lt
  have Hown1 := Lib.hid hown1
  clear hg1 ht hown1
  go_wp2_with fail
  refine (region_any g r1 7 4 _ ht1 (by omega) (by omega)).mono ?_
  rintro e w2 ⟨v2, rfl, hown2, ht2, hg2⟩
  have Rb := Lib.hid (tape_reg7 r1)
  generalize (mkReg r1 7 4).1 = rb at *
  generalize (mkReg r1 7 4).2 = r2 at *
  have Hb2 : Hid (Below w.heap.size w w2) := Lib.hid (below_only Hb1.out hg2 hg Hb1.out.size)
  obtain ⟨D1, k1, rfl, h1⟩ := SlR.of_own (ownsRow_only Hown1.out hg2 hlt)
  obtain ⟨D2, k2, rfl, h2⟩ := SlR.of_own hown2
  have Hs1 := Lib.hid h1
  have Hs2 := Lib.hid h2
  clear hown2 ht1 ht2 hg2 Hown1 h1 h2 HN hb0 hlt hlt1
  obtain ⟨rp, rq, rr, hE⟩ := squares_all Ra.out Rb.out
  have HE := Lib.hid hE
  clear hE Ra Rb
  have hs2 := Hb2.out.size
  go_upto_region 3 with fail
  obtain ⟨wa, hwa⟩ : ∃ wa : World, wa = (w2.alloc (.cells #[.slice D1 ra.length k1] 27)).alloc (.cells #[.slice D2 rb.length k2] 27) := ⟨_, rfl⟩
  rw [← hwa]
  have HLa : Hid (RBs wa [⟨w2.heap.size + 1, D2, rb.length, k2, rb⟩, ⟨w2.heap.size, D1, ra.length, k1, ra⟩]) := Lib.hid (by
    have h0 : RBs w2 [] := fun x hx => by cases hx
    have h1 := h0.push D1 ra.length k1 ra Hs1.out
    have h2 := h1.push D2 rb.length k2 rb (Hs2.out.below (by repeat' (first | with_reducible exact Below.refl _ _ | with_reducible refine below_drewN ?_ _ | with_reducible refine Below.drew ?_ | with_reducible refine Below.alloc ?_ ?_ _ | with_reducible refine Below.setCell ?_ ?_ _ | with_reducible refine Below.trans ?_ (Below.mono (by with_reducible assumption) ?_) | (simp; done) | (simp; omega) | omega)))
    rw [hwa]
    simpa using h2)
  have Hba : Hid (Below w.heap.size w wa) := Lib.hid (by rw [hwa]; exact Hb2.out.trans (Below.mono (by repeat' (first | with_reducible exact Below.refl _ _ | with_reducible refine below_drewN ?_ _ | with_reducible refine Below.drew ?_ | with_reducible refine Below.alloc ?_ ?_ _ | with_reducible refine Below.setCell ?_ ?_ _ | with_reducible refine Below.trans ?_ (Below.mono (by with_reducible assumption) ?_) | (simp; done) | (simp; omega) | omega)) hs2))
  have hsa := Hba.out.size
  clear hwa Hs1 Hs2 Hb2
  have cx0 : wa.cell? ⟨w2.heap.size, 0, none⟩ = some (.slice D1 ra.length k1) := (HLa.out _ (.tail _ (.head _))).c0
  have cy0 : wa.cell? ⟨w2.heap.size + 1, 0, none⟩ = some (.slice D2 rb.length k2) := (HLa.out _ (.head _)).c0
  go_upto_region 4 with (first
    | (go_at_call 13
       have hq := union_any D1 D2 ra.length k1 rb.length k2 ra rb wa (HLa.out _ (.tail _ (.head _))).sl (HLa.out _ (.head _)).sl
       rw [HE.out.e1] at hq
       refine hq.mono ?_
       rintro e wq0 ⟨vq0, rfl, hownq0, hbq0⟩
       obtain ⟨Dq0, kq0, rfl, hq0⟩ := SlR.of_own hownq0
       have HLq0 := Lib.hid (HLa.out.below hbq0)
       have Hsq0 := Lib.hid hq0
       have Hbq0 : Hid (Below w.heap.size w wq0) := Lib.hid (Hba.out.trans (hbq0.mono hsa))
       clear hq hownq0 hbq0 hq0)
    | fail)
  obtain ⟨wb, hwb⟩ : ∃ wb : World, wb = wq0.alloc (.cells #[.slice Dq0 rp.length kq0] 27) := ⟨_, rfl⟩
  rw [← hwb]
  have HLb := Lib.hid (HLq0.out.push Dq0 rp.length kq0 rp Hsq0.out)
  rw [← hwb] at HLb
  have Hbb : Hid (Below w.heap.size w wb) := Lib.hid (by rw [hwb]; exact Hbq0.out.alloc Hbq0.out.size _)
  have hsb := Hbb.out.size
  clear cx0 cy0 hwb HLq0 Hsq0 Hbq0 HLa Hba hsa
  have cx1 : wb.cell? ⟨w2.heap.size, 0, none⟩ = some (.slice D1 ra.length k1) := (HLb.out _ (.tail _ (.tail _ (.head _)))).c0
  have cy1 : wb.cell? ⟨w2.heap.size + 1, 0, none⟩ = some (.slice D2 rb.length k2) := (HLb.out _ (.tail _ (.head _))).c0
  go_upto_region 5 with (first
    | (go_at_call 14
       have hq := both_any D1 D2 ra.length k1 rb.length k2 ra rb wb (HLb.out _ (.tail _ (.tail _ (.head _)))).sl (HLb.out _ (.tail _ (.head _))).sl
       rw [HE.out.e2] at hq
       refine hq.mono ?_
       rintro e wq1 ⟨vq1, rfl, hownq1, hbq1⟩
       obtain ⟨Dq1, kq1, rfl, hq1⟩ := SlR.of_own hownq1
       have HLq1 := Lib.hid (HLb.out.below hbq1)
       have Hsq1 := Lib.hid hq1
       have Hbq1 : Hid (Below w.heap.size w wq1) := Lib.hid (Hbb.out.trans (hbq1.mono hsb))
       clear hq hownq1 hbq1 hq1)
    | fail)
  obtain ⟨wc, hwc⟩ : ∃ wc : World, wc = wq1.alloc (.cells #[.slice Dq1 rq.length kq1] 27) := ⟨_, rfl⟩
  rw [← hwc]
  have HLc := Lib.hid (HLq1.out.push Dq1 rq.length kq1 rq Hsq1.out)
  rw [← hwc] at HLc
  have Hbc : Hid (Below w.heap.size w wc) := Lib.hid (by rw [hwc]; exact Hbq1.out.alloc Hbq1.out.size _)
  have hsc := Hbc.out.size
  clear cx1 cy1 hwc HLq1 Hsq1 Hbq1 HLb Hbb hsb
  have cx2 : wc.cell? ⟨w2.heap.size, 0, none⟩ = some (.slice D1 ra.length k1) := (HLc.out _ (.tail _ (.tail _ (.tail _ (.head _))))).c0
  have cy2 : wc.cell? ⟨w2.heap.size + 1, 0, none⟩ = some (.slice D2 rb.length k2) := (HLc.out _ (.tail _ (.tail _ (.head _)))).c0
  go_upto_region 6 with (first
    | (go_at_call 15
       have hq := without_any D1 D2 ra.length k1 rb.length k2 ra rb wc (HLc.out _ (.tail _ (.tail _ (.tail _ (.head _))))).sl (HLc.out _ (.tail _ (.tail _ (.head _)))).sl
       rw [HE.out.e3] at hq
       refine hq.mono ?_
       rintro e wq2 ⟨vq2, rfl, hownq2, hbq2⟩
       obtain ⟨Dq2, kq2, rfl, hq2⟩ := SlR.of_own hownq2
       have HLq2 := Lib.hid (HLc.out.below hbq2)
       have Hsq2 := Lib.hid hq2
       have Hbq2 : Hid (Below w.heap.size w wq2) := Lib.hid (Hbc.out.trans (hbq2.mono hsc))
       clear hq hownq2 hbq2 hq2)
    | fail)
  obtain ⟨wd, hwd⟩ : ∃ wd : World, wd = wq2.alloc (.cells #[.slice Dq2 rr.length kq2] 27) := ⟨_, rfl⟩
  rw [← hwd]
  have HLd := Lib.hid (HLq2.out.push Dq2 rr.length kq2 rr Hsq2.out)
  rw [← hwd] at HLd
  have Hbd : Hid (Below w.heap.size w wd) := Lib.hid (by rw [hwd]; exact Hbq2.out.alloc Hbq2.out.size _)
  have hsd := Hbd.out.size
  clear cx2 cy2 hwd HLq2 Hsq2 Hbq2 HLc Hbc hsc
  have IA := Lib.hid (show ∀ x y : Nat, (∀ W, Below wd.heap.size wd W → Calls Try.prog 16 #[.agg #[.slice D1 ra.length k1], .int .i64 (x : Int), .int .i64 (y : Int)] W fun e w' => e = .returned (.bool (inL ra x y)) ∧ Below W.heap.size W w') from fun x y W hW => insideL_any D1 ra.length k1 ra x y W ((HLd.out _ (.tail _ (.tail _ (.tail _ (.tail _ (.head _)))))).sl.below hW))
  have IB := Lib.hid (show ∀ x y : Nat, (∀ W, Below wd.heap.size wd W → Calls Try.prog 16 #[.agg #[.slice D2 rb.length k2], .int .i64 (x : Int), .int .i64 (y : Int)] W fun e w' => e = .returned (.bool (inL rb x y)) ∧ Below W.heap.size W w') from fun x y W hW => insideL_any D2 rb.length k2 rb x y W ((HLd.out _ (.tail _ (.tail _ (.tail _ (.head _))))).sl.below hW))
  have KA := Lib.hid (show ∀ x y : Nat, (∀ W, Below wd.heap.size wd W → Calls Try.prog 17 #[.agg #[.slice D1 ra.length k1], .int .i64 (x : Int), .int .i64 (y : Int)] W fun e w' => e = .returned (.bool (inL ra x y)) ∧ Below W.heap.size W w') from fun x y W hW => by have h := has_any D1 ra.length k1 ra x y W ((HLd.out _ (.tail _ (.tail _ (.tail _ (.tail _ (.head _)))))).sl.below hW); rw [HE.out.h0] at h; exact h)
  have KP := Lib.hid (show ∀ x y : Nat, (∀ W, Below wd.heap.size wd W → Calls Try.prog 17 #[.agg #[.slice Dq0 rp.length kq0], .int .i64 (x : Int), .int .i64 (y : Int)] W fun e w' => e = .returned (.bool (inL ra x y || inL rb x y)) ∧ Below W.heap.size W w') from fun x y W hW => by have h := has_any Dq0 rp.length kq0 rp x y W ((HLd.out _ (.tail _ (.tail _ (.head _)))).sl.below hW); rw [HE.out.h1] at h; exact h)
  have KQ := Lib.hid (show ∀ x y : Nat, (∀ W, Below wd.heap.size wd W → Calls Try.prog 17 #[.agg #[.slice Dq1 rq.length kq1], .int .i64 (x : Int), .int .i64 (y : Int)] W fun e w' => e = .returned (.bool (inL ra x y && inL rb x y)) ∧ Below W.heap.size W w') from fun x y W hW => by have h := has_any Dq1 rq.length kq1 rq x y W ((HLd.out _ (.tail _ (.head _))).sl.below hW); rw [HE.out.h2] at h; exact h)
  have KR := Lib.hid (show ∀ x y : Nat, (∀ W, Below wd.heap.size wd W → Calls Try.prog 17 #[.agg #[.slice Dq2 rr.length kq2], .int .i64 (x : Int), .int .i64 (y : Int)] W fun e w' => e = .returned (.bool (inL ra x y && !inL rb x y)) ∧ Below W.heap.size W w') from fun x y W hW => by have h := has_any Dq2 rr.length kq2 rr x y W ((HLd.out _ (.head _)).sl.below hW); rw [HE.out.h3] at h; exact h)
  have AR := Lib.hid (show ∀ W, Below wd.heap.size wd W → Calls Try.prog 18 #[.agg #[.slice D1 ra.length k1]] W fun e w' => e = .returned (.int .i64 (areaP ra)) ∧ Below W.heap.size W w' from fun W hW => area_any D1 ra.length k1 ra W ((HLd.out _ (.tail _ (.tail _ (.tail _ (.tail _ (.head _)))))).sl.below hW))
  have Har := Lib.hid HE.out.area
  have Hsuc := Lib.hid (cnt_succ ra)
  have Hnxt := Lib.hid (cnt_next ra)
  have Hcbd := Lib.hid (cnt_bd ra)
  have Hc0 : Hid (cntP ra 0 0 = 0) := Lib.hid rfl
  have Hall : Hid (∀ W, Below wd.heap.size wd W → RBs W _) := Lib.hid (fun W hW => HLd.out.below hW)
  clear HE
  go_upto_region 10 with fail
  go_loopw [12, 13, 14, 15, 16] (fun nv xv _ _ _ wr => ∃ k : Nat, k ≤ 8 ∧ xv = .int .i64 (k : Int) ∧ nv = .int .i64 (cntP ra k 0) ∧ Below wd.heap.size wd wr) (fun _ xv _ _ _ _ => 8 - (intOf xv).toNat)
  case atStart => exact ⟨0, by omega, rfl, by rw [Hc0.out], Below.refl _ _⟩
  case round =>
    obtain ⟨wo, rfl⟩ : ∃ wo : World, wo = wr := ⟨_, rfl⟩
    obtain ⟨k, hk, rfl, rfl, hbo⟩ := hrel
    have Hbo := Lib.hid hbo
    clear hbo
    by_cases hk8 : k < 8
    · have hk8' : (k : Int) < 8 := by omega
      have Hn := Lib.hid (Hnxt.out k)
      go_upto_region 13 with fail
      go_loopw [12, 14, 15, 16] (fun nv yv _ _ wr => ∃ j : Nat, j ≤ 8 ∧ yv = .int .i64 (j : Int) ∧ nv = .int .i64 (cntP ra k j) ∧ Below wd.heap.size wd wr) (fun _ yv _ _ _ => 8 - (intOf yv).toNat)
      case atStart => exact ⟨0, by omega, rfl, rfl, Hbo.out⟩
      case round =>
        obtain ⟨j, hj, rfl, rfl, hbr⟩ := hrel
        have hsr := hbr.size
        have Hbr := Lib.hid hbr
        have hcb := Hcbd.out k j hk hj
        by_cases hj8 : j < 8
        · have hj8' : (j : Int) < 8 := by omega
          have Hstep := Lib.hid (Hsuc.out k j)
          have z4 : wr.cell? ⟨w2.heap.size, 0, none⟩ = some (.slice D1 ra.length k1) := (Hall.out wr hbr _ (.tail _ (.tail _ (.tail _ (.tail _ (.head _)))))).c0
          have y4 : w2.heap.size < wr.heap.size := (Hall.out wr hbr _ (.tail _ (.tail _ (.tail _ (.tail _ (.head _)))))).lt
          have z5 : wr.cell? ⟨w2.heap.size + 1, 0, none⟩ = some (.slice D2 rb.length k2) := (Hall.out wr hbr _ (.tail _ (.tail _ (.tail _ (.head _))))).c0
          have y5 : w2.heap.size + 1 < wr.heap.size := (Hall.out wr hbr _ (.tail _ (.tail _ (.tail _ (.head _))))).lt
          have z6 : wr.cell? ⟨wq0.heap.size, 0, none⟩ = some (.slice Dq0 rp.length kq0) := (Hall.out wr hbr _ (.tail _ (.tail _ (.head _)))).c0
          have y6 : wq0.heap.size < wr.heap.size := (Hall.out wr hbr _ (.tail _ (.tail _ (.head _)))).lt
          have z8 : wr.cell? ⟨wq1.heap.size, 0, none⟩ = some (.slice Dq1 rq.length kq1) := (Hall.out wr hbr _ (.tail _ (.head _))).c0
          have y8 : wq1.heap.size < wr.heap.size := (Hall.out wr hbr _ (.tail _ (.head _))).lt
          have z10 : wr.cell? ⟨wq2.heap.size, 0, none⟩ = some (.slice Dq2 rr.length kq2) := (Hall.out wr hbr _ (.head _)).c0
          have y10 : wq2.heap.size < wr.heap.size := (Hall.out wr hbr _ (.head _)).lt
          have Ia := Lib.hid (fun W (hW : Below wr.heap.size wr W) => IA.out k j W (Hbr.out.trans (hW.mono hsr)))
          have Ib := Lib.hid (fun W (hW : Below wr.heap.size wr W) => IB.out k j W (Hbr.out.trans (hW.mono hsr)))
          have Ka := Lib.hid (fun W (hW : Below wr.heap.size wr W) => KA.out k j W (Hbr.out.trans (hW.mono hsr)))
          have Kp := Lib.hid (fun W (hW : Below wr.heap.size wr W) => KP.out k j W (Hbr.out.trans (hW.mono hsr)))
          have Kq := Lib.hid (fun W (hW : Below wr.heap.size wr W) => KQ.out k j W (Hbr.out.trans (hW.mono hsr)))
          have Kr := Lib.hid (fun W (hW : Below wr.heap.size wr W) => KR.out k j W (Hbr.out.trans (hW.mono hsr)))
          generalize inL ra k j = ia at *
          generalize inL rb k j = ib at *
          clear hbr
          generalize cntP ra k j = m at *
          have hwm : wrap64 (m + 1) = m + 1 := IntWalk.wrap64_in _ (by omega)
          go_upto_region 15 with fail
          refine wp_region_below wr.heap.size (Nat.le_refl _) (by kernel_rfl) (by kernel_rfl) ?_
          intro I _ F hFc hFb hFs
          have p4 := fun i => (hFc i (w2.heap.size) 0 y4).trans z4
          have p5 := fun i => (hFc i (w2.heap.size + 1) 0 y5).trans z5
          repeat (go_big_quiet_step ((first
            | (go_at_call 16; first | (with_reducible exact class_call hFb hFs (Nat.le_refl _) (Ia.out _ (hFb _))) | (with_reducible exact class_call hFb hFs (Nat.le_refl _) (Ib.out _ (hFb _)))))))
          refine wpQuiet_nil ?_
          rintro _ ⟨iq, rfl⟩
          generalize hw4 : F iq = w4
          have hb4 : Below wr.heap.size wr w4 := by rw [← hw4]; exact hFb iq
          have Hb4 := Lib.hid hb4
          clear hw4 hFc hFb hFs p4 p5
          have hs4 := hb4.size
          have q4 := (hb4.cell (p := ⟨w2.heap.size, 0, none⟩) y4).trans z4
          have r4 : w2.heap.size < w4.heap.size := Nat.lt_of_lt_of_le y4 hs4
          have q6 := (hb4.cell (p := ⟨wq0.heap.size, 0, none⟩) y6).trans z6
          have r6 : wq0.heap.size < w4.heap.size := Nat.lt_of_lt_of_le y6 hs4
          have q8 := (hb4.cell (p := ⟨wq1.heap.size, 0, none⟩) y8).trans z8
          have r8 : wq1.heap.size < w4.heap.size := Nat.lt_of_lt_of_le y8 hs4
          have q10 := (hb4.cell (p := ⟨wq2.heap.size, 0, none⟩) y10).trans z10
          have r10 : wq2.heap.size < w4.heap.size := Nat.lt_of_lt_of_le y10 hs4
          clear hb4
          cases ia <;> cases ib
          all_goals
            (try simp only [Bool.or_true, Bool.true_or, Bool.or_false, Bool.false_or, Bool.and_true, Bool.true_and, Bool.and_false, Bool.false_and, Bool.not_true, Bool.not_false, Bool.or_self, Bool.and_self] at Kp Kq Kr)
            go_wp2_with (first
              | (go_at_call_of 17 (Value.slice D1 ra.length k1)
                 refine (Ka.out _ Hb4.out).mono ?_
                 rintro e w5 ⟨rfl, hb5⟩
                 have Hb5 : Hid (Below wr.heap.size wr w5) := Lib.hid (Hb4.out.trans (hb5.mono Hb4.out.size))
                 have q4n5 := (hb5.cell (p := ⟨w2.heap.size, 0, none⟩) r4).trans q4
                 have r4n5 : w2.heap.size < w5.heap.size := Nat.lt_of_lt_of_le r4 hb5.size
                 have q6n5 := (hb5.cell (p := ⟨wq0.heap.size, 0, none⟩) r6).trans q6
                 have r6n5 : wq0.heap.size < w5.heap.size := Nat.lt_of_lt_of_le r6 hb5.size
                 have q8n5 := (hb5.cell (p := ⟨wq1.heap.size, 0, none⟩) r8).trans q8
                 have r8n5 : wq1.heap.size < w5.heap.size := Nat.lt_of_lt_of_le r8 hb5.size
                 have q10n5 := (hb5.cell (p := ⟨wq2.heap.size, 0, none⟩) r10).trans q10
                 have r10n5 : wq2.heap.size < w5.heap.size := Nat.lt_of_lt_of_le r10 hb5.size
                 clear hb5)
              | (go_at_call_of 17 (Value.slice Dq0 rp.length kq0)
                 refine (Kp.out _ Hb5.out).mono ?_
                 rintro e w6 ⟨rfl, hb6⟩
                 have Hb6 : Hid (Below wr.heap.size wr w6) := Lib.hid (Hb5.out.trans (hb6.mono Hb5.out.size))
                 have q4n6 := (hb6.cell (p := ⟨w2.heap.size, 0, none⟩) r4n5).trans q4n5
                 have r4n6 : w2.heap.size < w6.heap.size := Nat.lt_of_lt_of_le r4n5 hb6.size
                 have q6n6 := (hb6.cell (p := ⟨wq0.heap.size, 0, none⟩) r6n5).trans q6n5
                 have r6n6 : wq0.heap.size < w6.heap.size := Nat.lt_of_lt_of_le r6n5 hb6.size
                 have q8n6 := (hb6.cell (p := ⟨wq1.heap.size, 0, none⟩) r8n5).trans q8n5
                 have r8n6 : wq1.heap.size < w6.heap.size := Nat.lt_of_lt_of_le r8n5 hb6.size
                 have q10n6 := (hb6.cell (p := ⟨wq2.heap.size, 0, none⟩) r10n5).trans q10n5
                 have r10n6 : wq2.heap.size < w6.heap.size := Nat.lt_of_lt_of_le r10n5 hb6.size
                 clear hb6)
              | (go_at_call_of 17 (Value.slice Dq1 rq.length kq1)
                 refine (Kq.out _ Hb6.out).mono ?_
                 rintro e w7 ⟨rfl, hb7⟩
                 have Hb7 : Hid (Below wr.heap.size wr w7) := Lib.hid (Hb6.out.trans (hb7.mono Hb6.out.size))
                 have q4n7 := (hb7.cell (p := ⟨w2.heap.size, 0, none⟩) r4n6).trans q4n6
                 have r4n7 : w2.heap.size < w7.heap.size := Nat.lt_of_lt_of_le r4n6 hb7.size
                 have q6n7 := (hb7.cell (p := ⟨wq0.heap.size, 0, none⟩) r6n6).trans q6n6
                 have r6n7 : wq0.heap.size < w7.heap.size := Nat.lt_of_lt_of_le r6n6 hb7.size
                 have q8n7 := (hb7.cell (p := ⟨wq1.heap.size, 0, none⟩) r8n6).trans q8n6
                 have r8n7 : wq1.heap.size < w7.heap.size := Nat.lt_of_lt_of_le r8n6 hb7.size
                 have q10n7 := (hb7.cell (p := ⟨wq2.heap.size, 0, none⟩) r10n6).trans q10n6
                 have r10n7 : wq2.heap.size < w7.heap.size := Nat.lt_of_lt_of_le r10n6 hb7.size
                 clear hb7)
              | (go_at_call_of 17 (Value.slice Dq2 rr.length kq2)
                 refine (Kr.out _ Hb7.out).mono ?_
                 rintro e w8 ⟨rfl, hb8⟩
                 have Hb8 : Hid (Below wr.heap.size wr w8) := Lib.hid (Hb7.out.trans (hb8.mono Hb7.out.size))
                 have q4n8 := (hb8.cell (p := ⟨w2.heap.size, 0, none⟩) r4n7).trans q4n7
                 have r4n8 : w2.heap.size < w8.heap.size := Nat.lt_of_lt_of_le r4n7 hb8.size
                 have q6n8 := (hb8.cell (p := ⟨wq0.heap.size, 0, none⟩) r6n7).trans q6n7
                 have r6n8 : wq0.heap.size < w8.heap.size := Nat.lt_of_lt_of_le r6n7 hb8.size
                 have q8n8 := (hb8.cell (p := ⟨wq1.heap.size, 0, none⟩) r8n7).trans q8n7
                 have r8n8 : wq1.heap.size < w8.heap.size := Nat.lt_of_lt_of_le r8n7 hb8.size
                 have q10n8 := (hb8.cell (p := ⟨wq2.heap.size, 0, none⟩) r10n7).trans q10n7
                 have r10n8 : wq2.heap.size < w8.heap.size := Nat.lt_of_lt_of_le r10n7 hb8.size
                 clear hb8)
              | fail)
            go_roundw
            case rel =>
              first
                | exact ⟨j + 1, by omega, by go_num, by rw [Hstep.out]; rfl, Hbr.out.trans (Hb8.out.mono hsr)⟩
                | exact ⟨j + 1, by omega, by go_num, by rw [Hstep.out]; simp [ind], Hbr.out.trans (Hb8.out.mono hsr)⟩
            case measure => simp [intOf]; omega
        · have ej : j = 8 := by omega
          subst ej
          have hj8' : ¬ ((8 : Nat) : Int) < 8 := by omega
          go_wp2
          go_roundw
          case rel => exact ⟨k + 1, by omega, by go_num, by rw [Hn.out], Hbr.out⟩
          case measure => simp [intOf]; omega
    · have ek : k = 8 := by omega
      subst ek
      have hk8' : ¬ ((8 : Nat) : Int) < 8 := by omega
      have z4 : wo.cell? ⟨w2.heap.size, 0, none⟩ = some (.slice D1 ra.length k1) := (Hall.out wo Hbo.out _ (.tail _ (.tail _ (.tail _ (.tail _ (.head _)))))).c0
      rw [Har.out] at AR
      generalize cntP ra 8 0 = m at *
      go_wp2_with (first
        | (go_at_call 18
           refine (AR.out _ Hbo.out).mono ?_
           rintro e w5 ⟨rfl, hb5⟩
           have Hb5 : Hid (Below wd.heap.size wd w5) := Lib.hid (Hbo.out.trans (hb5.mono Hbo.out.size))
           clear hb5)
        | (go_at_call 12
           refine (awake_any _).mono ?_
           rintro e w6 ⟨rfl, hb6⟩
           have Hb6 : Hid (Below wd.heap.size wd w6) := Lib.hid (Hb5.out.trans (hb6.mono Hb5.out.size))
           clear hb6)
        | fail)
      go_ret
      exact ⟨rfl, Hbd.out.trans (Hb6.out.mono hsd)⟩
end Go.Proofs.Ytmkopmcjilaedaa
