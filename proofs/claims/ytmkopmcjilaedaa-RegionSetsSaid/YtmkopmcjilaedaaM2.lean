/- RegionSets: the walk. -/
import Derived.Test.YtmkopmcjilaedaaU5
namespace Go.Proofs.Ytmkopmcjilaedaa
open Go.RowKit
set_option linter.unusedVariables false
set_option linter.unusedSimpArgs false

set_option maxHeartbeats 16000000 in
set_option maxRecDepth 100000 in
theorem setsLaw (A : Option Addr) (n c : Nat) (zs : List Int) (w : World) (hn : zs.length = n) (hc : n ≤ c) (hm : c ≤ maxLen) (hw : ∀ z ∈ zs, (Lit.int .i64 z).wf = true) (hA : Lies w A n (zs.map (.int .i64))) :
    Calls Try.prog 5 #[.slice A n c] w fun e w' => e = .returned (.bool true) ∧ Below w.heap.size w w' := by
  have HN := Lib.hid (new_any A n c zs w hn hc hm hw hA)
  clear hn hw hA
  go_enter Try.func5, Try.ntmps5
  go_wp2_with fail
  refine HN.out.mono ?_
  rintro e w0 ⟨g, rfl, hg, ht, hb0⟩
  generalize zs.take 400 = r at *
  have hlt := ht.lt
  go_wp2_with fail
  refine (region_any g r 8 3 _ ht (by omega) (by omega)).mono ?_
  rintro e w1 ⟨v1, rfl, hown1, ht1, hg1⟩
  have Ra := Lib.hid (tape_reg8 r)
  generalize (mkReg r 8 3).1 = ra at *
  generalize (mkReg r 8 3).2 = r1 at *
  have Hb1 : Hid (Below w.heap.size w w1) := Lib.hid (below_only hb0 hg1 hg hb0.size)
  have hlt1 := ht1.lt
  have Hown1 := Lib.hid hown1
  clear hg1 ht hown1
  go_wp2_with fail
  refine (region_any g r1 8 3 _ ht1 (by omega) (by omega)).mono ?_
  rintro e w2 ⟨v2, rfl, hown2, ht2, hg2⟩
  have Rb := Lib.hid (tape_reg8 r1)
  generalize (mkReg r1 8 3).1 = rb at *
  generalize (mkReg r1 8 3).2 = r2 at *
  have Hb2 : Hid (Below w.heap.size w w2) := Lib.hid (below_only Hb1.out hg2 hg Hb1.out.size)
  have hlt2 := ht2.lt
  have Hown12 := Lib.hid (ownsRow_only Hown1.out hg2 hlt)
  have Hown2 := Lib.hid hown2
  clear hg2 ht1 hown2 Hown1
  go_wp2_with fail
  refine (region_any g r2 8 3 _ ht2 (by omega) (by omega)).mono ?_
  rintro e w3 ⟨v3, rfl, hown3, ht3, hg3⟩
  have Rc := Lib.hid (tape_reg8 r2)
  generalize (mkReg r2 8 3).1 = rc at *
  generalize (mkReg r2 8 3).2 = r3 at *
  have Hb3 : Hid (Below w.heap.size w w3) := Lib.hid (below_only Hb2.out hg3 hg Hb2.out.size)
  obtain ⟨D1, k1, rfl, h1⟩ := SlR.of_own (ownsRow_only Hown12.out hg3 hlt)
  obtain ⟨D2, k2, rfl, h2⟩ := SlR.of_own (ownsRow_only Hown2.out hg3 hlt1)
  obtain ⟨D3, k3, rfl, h3⟩ := SlR.of_own hown3
  have Hs1 := Lib.hid h1
  have Hs2 := Lib.hid h2
  have Hs3 := Lib.hid h3
  clear hown3 ht2 ht3 hg3 Hown12 Hown2 h1 h2 h3 HN hb0 hlt hlt1 hlt2
  obtain ⟨ab, bc, lf, bo, rs, rx, hE⟩ := sets_all Ra.out Rb.out Rc.out
  have HE := Lib.hid hE
  clear hE
  have hs3 := Hb3.out.size
  go_upto_region 3 with fail
  obtain ⟨wa, hwa⟩ : ∃ wa : World, wa = ((w3.alloc (.cells #[.slice D1 ra.length k1] 27)).alloc (.cells #[.slice D2 rb.length k2] 27)).alloc (.cells #[.slice D3 rc.length k3] 27) := ⟨_, rfl⟩
  rw [← hwa]
  have HLa : Hid (RBs wa [⟨w3.heap.size + 1 + 1, D3, rc.length, k3, rc⟩, ⟨w3.heap.size + 1, D2, rb.length, k2, rb⟩, ⟨w3.heap.size, D1, ra.length, k1, ra⟩]) := Lib.hid (by
    have h0 : RBs w3 [] := fun x hx => by cases hx
    have h1 := h0.push D1 ra.length k1 ra Hs1.out
    have h2 := h1.push D2 rb.length k2 rb (Hs2.out.below (by repeat' (first | with_reducible exact Below.refl _ _ | with_reducible refine below_drewN ?_ _ | with_reducible refine Below.drew ?_ | with_reducible refine Below.alloc ?_ ?_ _ | with_reducible refine Below.setCell ?_ ?_ _ | with_reducible refine Below.trans ?_ (Below.mono (by with_reducible assumption) ?_) | (simp; done) | (simp; omega) | omega)))
    have h3 := h2.push D3 rc.length k3 rc (Hs3.out.below (by repeat' (first | with_reducible exact Below.refl _ _ | with_reducible refine below_drewN ?_ _ | with_reducible refine Below.drew ?_ | with_reducible refine Below.alloc ?_ ?_ _ | with_reducible refine Below.setCell ?_ ?_ _ | with_reducible refine Below.trans ?_ (Below.mono (by with_reducible assumption) ?_) | (simp; done) | (simp; omega) | omega)))
    rw [hwa]
    simpa using h3)
  have Hba : Hid (Below w.heap.size w wa) := Lib.hid (by rw [hwa]; exact Hb3.out.trans (Below.mono (by repeat' (first | with_reducible exact Below.refl _ _ | with_reducible refine below_drewN ?_ _ | with_reducible refine Below.drew ?_ | with_reducible refine Below.alloc ?_ ?_ _ | with_reducible refine Below.setCell ?_ ?_ _ | with_reducible refine Below.trans ?_ (Below.mono (by with_reducible assumption) ?_) | (simp; done) | (simp; omega) | omega)) hs3))
  have hsa := Hba.out.size
  clear hwa Hs1 Hs2 Hs3 Hb3
  have cx0 : wa.cell? ⟨w3.heap.size, 0, none⟩ = some (.slice D1 ra.length k1) := (HLa.out _ (.tail _ (.tail _ (.head _)))).c0
  have cy0 : wa.cell? ⟨w3.heap.size + 1, 0, none⟩ = some (.slice D2 rb.length k2) := (HLa.out _ (.tail _ (.head _))).c0
  go_upto_region 4 with (first
    | (go_at_call 13
       have hq := union_any D1 D2 ra.length k1 rb.length k2 ra rb wa (HLa.out _ (.tail _ (.tail _ (.head _)))).sl (HLa.out _ (.tail _ (.head _))).sl
       rw [HE.out.e1] at hq
       refine hq.mono ?_
       rintro e wq0 ⟨vq0, rfl, hownq0, hbq0⟩
       obtain ⟨Dq0, kq0, rfl, hq0⟩ := SlR.of_own hownq0
       have HLq0 := Lib.hid (HLa.out.below hbq0)
       have Hsq0 := Lib.hid hq0
       have Hbq0 : Hid (Below w.heap.size w wq0) := Lib.hid (Hba.out.trans (hbq0.mono hsa))
       clear hq hownq0 hbq0 hq0)
    | fail)
  obtain ⟨wb, hwb⟩ : ∃ wb : World, wb = wq0.alloc (.cells #[.slice Dq0 ab.length kq0] 27) := ⟨_, rfl⟩
  rw [← hwb]
  have HLb := Lib.hid (HLq0.out.push Dq0 ab.length kq0 ab Hsq0.out)
  rw [← hwb] at HLb
  have Hbb : Hid (Below w.heap.size w wb) := Lib.hid (by rw [hwb]; exact Hbq0.out.alloc Hbq0.out.size _)
  have hsb := Hbb.out.size
  clear cx0 cy0 hwb HLq0 Hsq0 Hbq0 HLa Hba hsa
  have cx1 : wb.cell? ⟨w3.heap.size + 1, 0, none⟩ = some (.slice D2 rb.length k2) := (HLb.out _ (.tail _ (.tail _ (.head _)))).c0
  have cy1 : wb.cell? ⟨w3.heap.size, 0, none⟩ = some (.slice D1 ra.length k1) := (HLb.out _ (.tail _ (.tail _ (.tail _ (.head _))))).c0
  go_upto_region 5 with (first
    | (go_at_call 13
       have hq := union_any D2 D1 rb.length k2 ra.length k1 rb ra wb (HLb.out _ (.tail _ (.tail _ (.head _)))).sl (HLb.out _ (.tail _ (.tail _ (.tail _ (.head _))))).sl
       rw [HE.out.e2] at hq
       refine hq.mono ?_
       rintro e wq1 ⟨vq1, rfl, hownq1, hbq1⟩
       obtain ⟨Dq1, kq1, rfl, hq1⟩ := SlR.of_own hownq1
       have HLq1 := Lib.hid (HLb.out.below hbq1)
       have Hsq1 := Lib.hid hq1
       have Hbq1 : Hid (Below w.heap.size w wq1) := Lib.hid (Hbb.out.trans (hbq1.mono hsb))
       clear hq hownq1 hbq1 hq1)
    | fail)
  obtain ⟨wc, hwc⟩ : ∃ wc : World, wc = wq1.alloc (.cells #[.slice Dq1 ab.length kq1] 27) := ⟨_, rfl⟩
  rw [← hwc]
  have HLc := Lib.hid (HLq1.out.push Dq1 ab.length kq1 ab Hsq1.out)
  rw [← hwc] at HLc
  have Hbc : Hid (Below w.heap.size w wc) := Lib.hid (by rw [hwc]; exact Hbq1.out.alloc Hbq1.out.size _)
  have hsc := Hbc.out.size
  clear cx1 cy1 hwc HLq1 Hsq1 Hbq1 HLb Hbb hsb
  have cx2 : wc.cell? ⟨w3.heap.size + 1, 0, none⟩ = some (.slice D2 rb.length k2) := (HLc.out _ (.tail _ (.tail _ (.tail _ (.head _))))).c0
  have cy2 : wc.cell? ⟨w3.heap.size + 1 + 1, 0, none⟩ = some (.slice D3 rc.length k3) := (HLc.out _ (.tail _ (.tail _ (.head _)))).c0
  go_upto_region 6 with (first
    | (go_at_call 13
       have hq := union_any D2 D3 rb.length k2 rc.length k3 rb rc wc (HLc.out _ (.tail _ (.tail _ (.tail _ (.head _))))).sl (HLc.out _ (.tail _ (.tail _ (.head _)))).sl
       rw [HE.out.e3] at hq
       refine hq.mono ?_
       rintro e wq2 ⟨vq2, rfl, hownq2, hbq2⟩
       obtain ⟨Dq2, kq2, rfl, hq2⟩ := SlR.of_own hownq2
       have HLq2 := Lib.hid (HLc.out.below hbq2)
       have Hsq2 := Lib.hid hq2
       have Hbq2 : Hid (Below w.heap.size w wq2) := Lib.hid (Hbc.out.trans (hbq2.mono hsc))
       clear hq hownq2 hbq2 hq2)
    | fail)
  obtain ⟨wd, hwd⟩ : ∃ wd : World, wd = wq2.alloc (.cells #[.slice Dq2 bc.length kq2] 27) := ⟨_, rfl⟩
  rw [← hwd]
  have HLd := Lib.hid (HLq2.out.push Dq2 bc.length kq2 bc Hsq2.out)
  rw [← hwd] at HLd
  have Hbd : Hid (Below w.heap.size w wd) := Lib.hid (by rw [hwd]; exact Hbq2.out.alloc Hbq2.out.size _)
  have hsd := Hbd.out.size
  clear cx2 cy2 hwd HLq2 Hsq2 Hbq2 HLc Hbc hsc
  have cx3 : wd.cell? ⟨wq0.heap.size, 0, none⟩ = some (.slice Dq0 ab.length kq0) := (HLd.out _ (.tail _ (.tail _ (.head _)))).c0
  have cy3 : wd.cell? ⟨w3.heap.size + 1 + 1, 0, none⟩ = some (.slice D3 rc.length k3) := (HLd.out _ (.tail _ (.tail _ (.tail _ (.head _))))).c0
  go_upto_region 7 with (first
    | (go_at_call 13
       have hq := union_any Dq0 D3 ab.length kq0 rc.length k3 ab rc wd (HLd.out _ (.tail _ (.tail _ (.head _)))).sl (HLd.out _ (.tail _ (.tail _ (.tail _ (.head _))))).sl
       rw [HE.out.e4] at hq
       refine hq.mono ?_
       rintro e wq3 ⟨vq3, rfl, hownq3, hbq3⟩
       obtain ⟨Dq3, kq3, rfl, hq3⟩ := SlR.of_own hownq3
       have HLq3 := Lib.hid (HLd.out.below hbq3)
       have Hsq3 := Lib.hid hq3
       have Hbq3 : Hid (Below w.heap.size w wq3) := Lib.hid (Hbd.out.trans (hbq3.mono hsd))
       clear hq hownq3 hbq3 hq3)
    | fail)
  obtain ⟨we, hwe⟩ : ∃ we : World, we = wq3.alloc (.cells #[.slice Dq3 lf.length kq3] 27) := ⟨_, rfl⟩
  rw [← hwe]
  have HLe := Lib.hid (HLq3.out.push Dq3 lf.length kq3 lf Hsq3.out)
  rw [← hwe] at HLe
  have Hbe : Hid (Below w.heap.size w we) := Lib.hid (by rw [hwe]; exact Hbq3.out.alloc Hbq3.out.size _)
  have hse := Hbe.out.size
  clear cx3 cy3 hwe HLq3 Hsq3 Hbq3 HLd Hbd hsd
  have cx4 : we.cell? ⟨w3.heap.size, 0, none⟩ = some (.slice D1 ra.length k1) := (HLe.out _ (.tail _ (.tail _ (.tail _ (.tail _ (.tail _ (.tail _ (.head _)))))))).c0
  have cy4 : we.cell? ⟨wq2.heap.size, 0, none⟩ = some (.slice Dq2 bc.length kq2) := (HLe.out _ (.tail _ (.head _))).c0
  go_upto_region 8 with (first
    | (go_at_call 13
       have hq := union_any D1 Dq2 ra.length k1 bc.length kq2 ra bc we (HLe.out _ (.tail _ (.tail _ (.tail _ (.tail _ (.tail _ (.tail _ (.head _)))))))).sl (HLe.out _ (.tail _ (.head _))).sl
       rw [HE.out.e5] at hq
       refine hq.mono ?_
       rintro e wq4 ⟨vq4, rfl, hownq4, hbq4⟩
       obtain ⟨Dq4, kq4, rfl, hq4⟩ := SlR.of_own hownq4
       have HLq4 := Lib.hid (HLe.out.below hbq4)
       have Hsq4 := Lib.hid hq4
       have Hbq4 : Hid (Below w.heap.size w wq4) := Lib.hid (Hbe.out.trans (hbq4.mono hse))
       clear hq hownq4 hbq4 hq4)
    | fail)
  obtain ⟨wf, hwf⟩ : ∃ wf : World, wf = wq4.alloc (.cells #[.slice Dq4 lf.length kq4] 27) := ⟨_, rfl⟩
  rw [← hwf]
  have HLf := Lib.hid (HLq4.out.push Dq4 lf.length kq4 lf Hsq4.out)
  rw [← hwf] at HLf
  have Hbf : Hid (Below w.heap.size w wf) := Lib.hid (by rw [hwf]; exact Hbq4.out.alloc Hbq4.out.size _)
  have hsf := Hbf.out.size
  clear cx4 cy4 hwf HLq4 Hsq4 Hbq4 HLe Hbe hse
  have cx5 : wf.cell? ⟨w3.heap.size, 0, none⟩ = some (.slice D1 ra.length k1) := (HLf.out _ (.tail _ (.tail _ (.tail _ (.tail _ (.tail _ (.tail _ (.tail _ (.head _))))))))).c0
  have cy5 : wf.cell? ⟨w3.heap.size + 1, 0, none⟩ = some (.slice D2 rb.length k2) := (HLf.out _ (.tail _ (.tail _ (.tail _ (.tail _ (.tail _ (.tail _ (.head _)))))))).c0
  go_upto_region 9 with (first
    | (go_at_call 14
       have hq := both_any D1 D2 ra.length k1 rb.length k2 ra rb wf (HLf.out _ (.tail _ (.tail _ (.tail _ (.tail _ (.tail _ (.tail _ (.tail _ (.head _))))))))).sl (HLf.out _ (.tail _ (.tail _ (.tail _ (.tail _ (.tail _ (.tail _ (.head _)))))))).sl
       rw [HE.out.e6] at hq
       refine hq.mono ?_
       rintro e wq5 ⟨vq5, rfl, hownq5, hbq5⟩
       obtain ⟨Dq5, kq5, rfl, hq5⟩ := SlR.of_own hownq5
       have HLq5 := Lib.hid (HLf.out.below hbq5)
       have Hsq5 := Lib.hid hq5
       have Hbq5 : Hid (Below w.heap.size w wq5) := Lib.hid (Hbf.out.trans (hbq5.mono hsf))
       clear hq hownq5 hbq5 hq5)
    | fail)
  obtain ⟨wg, hwg⟩ : ∃ wg : World, wg = wq5.alloc (.cells #[.slice Dq5 bo.length kq5] 27) := ⟨_, rfl⟩
  rw [← hwg]
  have HLg := Lib.hid (HLq5.out.push Dq5 bo.length kq5 bo Hsq5.out)
  rw [← hwg] at HLg
  have Hbg : Hid (Below w.heap.size w wg) := Lib.hid (by rw [hwg]; exact Hbq5.out.alloc Hbq5.out.size _)
  have hsg := Hbg.out.size
  clear cx5 cy5 hwg HLq5 Hsq5 Hbq5 HLf Hbf hsf
  have cx6 : wg.cell? ⟨w3.heap.size, 0, none⟩ = some (.slice D1 ra.length k1) := (HLg.out _ (.tail _ (.tail _ (.tail _ (.tail _ (.tail _ (.tail _ (.tail _ (.tail _ (.head _)))))))))).c0
  have cy6 : wg.cell? ⟨wq5.heap.size, 0, none⟩ = some (.slice Dq5 bo.length kq5) := (HLg.out _ (.head _)).c0
  go_upto_region 10 with (first
    | (go_at_call 13
       have hq := union_any D1 Dq5 ra.length k1 bo.length kq5 ra bo wg (HLg.out _ (.tail _ (.tail _ (.tail _ (.tail _ (.tail _ (.tail _ (.tail _ (.tail _ (.head _)))))))))).sl (HLg.out _ (.head _)).sl
       rw [HE.out.e7] at hq
       refine hq.mono ?_
       rintro e wq6 ⟨vq6, rfl, hownq6, hbq6⟩
       obtain ⟨Dq6, kq6, rfl, hq6⟩ := SlR.of_own hownq6
       have HLq6 := Lib.hid (HLg.out.below hbq6)
       have Hsq6 := Lib.hid hq6
       have Hbq6 : Hid (Below w.heap.size w wq6) := Lib.hid (Hbg.out.trans (hbq6.mono hsg))
       clear hq hownq6 hbq6 hq6)
    | fail)
  obtain ⟨wh, hwh⟩ : ∃ wh : World, wh = wq6.alloc (.cells #[.slice Dq6 ra.length kq6] 27) := ⟨_, rfl⟩
  rw [← hwh]
  have HLh := Lib.hid (HLq6.out.push Dq6 ra.length kq6 ra Hsq6.out)
  rw [← hwh] at HLh
  have Hbh : Hid (Below w.heap.size w wh) := Lib.hid (by rw [hwh]; exact Hbq6.out.alloc Hbq6.out.size _)
  have hsh := Hbh.out.size
  clear cx6 cy6 hwh HLq6 Hsq6 Hbq6 HLg Hbg hsg
  have cx7 : wh.cell? ⟨w3.heap.size + 1 + 1, 0, none⟩ = some (.slice D3 rc.length k3) := (HLh.out _ (.tail _ (.tail _ (.tail _ (.tail _ (.tail _ (.tail _ (.tail _ (.head _))))))))).c0
  have cy7 : wh.cell? ⟨wq0.heap.size, 0, none⟩ = some (.slice Dq0 ab.length kq0) := (HLh.out _ (.tail _ (.tail _ (.tail _ (.tail _ (.tail _ (.tail _ (.head _)))))))).c0
  go_upto_region 11 with (first
    | (go_at_call 15
       have hq := without_any D3 Dq0 rc.length k3 ab.length kq0 rc ab wh (HLh.out _ (.tail _ (.tail _ (.tail _ (.tail _ (.tail _ (.tail _ (.tail _ (.head _))))))))).sl (HLh.out _ (.tail _ (.tail _ (.tail _ (.tail _ (.tail _ (.tail _ (.head _)))))))).sl
       rw [HE.out.e8] at hq
       refine hq.mono ?_
       rintro e wq7 ⟨vq7, rfl, hownq7, hbq7⟩
       obtain ⟨Dq7, kq7, rfl, hq7⟩ := SlR.of_own hownq7
       have HLq7 := Lib.hid (HLh.out.below hbq7)
       have Hsq7 := Lib.hid hq7
       have Hbq7 : Hid (Below w.heap.size w wq7) := Lib.hid (Hbh.out.trans (hbq7.mono hsh))
       clear hq hownq7 hbq7 hq7)
    | fail)
  obtain ⟨wi, hwi⟩ : ∃ wi : World, wi = wq7.alloc (.cells #[.slice Dq7 rs.length kq7] 27) := ⟨_, rfl⟩
  rw [← hwi]
  have HLi := Lib.hid (HLq7.out.push Dq7 rs.length kq7 rs Hsq7.out)
  rw [← hwi] at HLi
  have Hbi : Hid (Below w.heap.size w wi) := Lib.hid (by rw [hwi]; exact Hbq7.out.alloc Hbq7.out.size _)
  have hsi := Hbi.out.size
  clear cx7 cy7 hwi HLq7 Hsq7 Hbq7 HLh Hbh hsh
  have cx8 : wi.cell? ⟨w3.heap.size + 1 + 1, 0, none⟩ = some (.slice D3 rc.length k3) := (HLi.out _ (.tail _ (.tail _ (.tail _ (.tail _ (.tail _ (.tail _ (.tail _ (.tail _ (.head _)))))))))).c0
  have cy8 : wi.cell? ⟨w3.heap.size, 0, none⟩ = some (.slice D1 ra.length k1) := (HLi.out _ (.tail _ (.tail _ (.tail _ (.tail _ (.tail _ (.tail _ (.tail _ (.tail _ (.tail _ (.tail _ (.head _)))))))))))).c0
  go_upto_region 12 with (first
    | (go_at_call 15
       have hq := without_any D3 D1 rc.length k3 ra.length k1 rc ra wi (HLi.out _ (.tail _ (.tail _ (.tail _ (.tail _ (.tail _ (.tail _ (.tail _ (.tail _ (.head _)))))))))).sl (HLi.out _ (.tail _ (.tail _ (.tail _ (.tail _ (.tail _ (.tail _ (.tail _ (.tail _ (.tail _ (.tail _ (.head _)))))))))))).sl
       rw [HE.out.e9] at hq
       refine hq.mono ?_
       rintro e wq8 ⟨vq8, rfl, hownq8, hbq8⟩
       obtain ⟨Dq8, kq8, rfl, hq8⟩ := SlR.of_own hownq8
       have HLq8 := Lib.hid (HLi.out.below hbq8)
       have Hsq8 := Lib.hid hq8
       have Hbq8 : Hid (Below w.heap.size w wq8) := Lib.hid (Hbi.out.trans (hbq8.mono hsi))
       clear hq hownq8 hbq8 hq8)
    | fail)
  obtain ⟨wj, hwj⟩ : ∃ wj : World, wj = wq8.alloc (.cells #[.slice Dq8 rx.length kq8] 27) := ⟨_, rfl⟩
  rw [← hwj]
  have HLj := Lib.hid (HLq8.out.push Dq8 rx.length kq8 rx Hsq8.out)
  rw [← hwj] at HLj
  have Hbj : Hid (Below w.heap.size w wj) := Lib.hid (by rw [hwj]; exact Hbq8.out.alloc Hbq8.out.size _)
  have hsj := Hbj.out.size
  clear cx8 cy8 hwj HLq8 Hsq8 Hbq8 HLi Hbi hsi
  have cx9 : wj.cell? ⟨wq8.heap.size, 0, none⟩ = some (.slice Dq8 rx.length kq8) := (HLj.out _ (.head _)).c0
  have cy9 : wj.cell? ⟨w3.heap.size + 1, 0, none⟩ = some (.slice D2 rb.length k2) := (HLj.out _ (.tail _ (.tail _ (.tail _ (.tail _ (.tail _ (.tail _ (.tail _ (.tail _ (.tail _ (.tail _ (.head _)))))))))))).c0
  go_upto_region 13 with (first
    | (go_at_call 15
       have hq := without_any Dq8 D2 rx.length kq8 rb.length k2 rx rb wj (HLj.out _ (.head _)).sl (HLj.out _ (.tail _ (.tail _ (.tail _ (.tail _ (.tail _ (.tail _ (.tail _ (.tail _ (.tail _ (.tail _ (.head _)))))))))))).sl
       rw [HE.out.e10] at hq
       refine hq.mono ?_
       rintro e wq9 ⟨vq9, rfl, hownq9, hbq9⟩
       obtain ⟨Dq9, kq9, rfl, hq9⟩ := SlR.of_own hownq9
       have HLq9 := Lib.hid (HLj.out.below hbq9)
       have Hsq9 := Lib.hid hq9
       have Hbq9 : Hid (Below w.heap.size w wq9) := Lib.hid (Hbj.out.trans (hbq9.mono hsj))
       clear hq hownq9 hbq9 hq9)
    | fail)
  obtain ⟨wk, hwk⟩ : ∃ wk : World, wk = wq9.alloc (.cells #[.slice Dq9 rs.length kq9] 27) := ⟨_, rfl⟩
  rw [← hwk]
  have HLk := Lib.hid (HLq9.out.push Dq9 rs.length kq9 rs Hsq9.out)
  rw [← hwk] at HLk
  have Hbk : Hid (Below w.heap.size w wk) := Lib.hid (by rw [hwk]; exact Hbq9.out.alloc Hbq9.out.size _)
  have hsk := Hbk.out.size
  clear cx9 cy9 hwk HLq9 Hsq9 Hbq9 HLj Hbj hsj
  go_upto_region 14 with fail
  obtain ⟨wy, hwy⟩ : ∃ wy : World, wy = wk.alloc (.cells #[.int .i64 0, .int .i64 0, .int .i64 0, .int .i64 0, .int .i64 0, .int .i64 0, .int .i64 0, .int .i64 0, .int .i64 0, .int .i64 0] 31) := ⟨_, rfl⟩
  rw [← hwy]
  have hze : ∀ k, k < 10 → wy.cell? ⟨wk.heap.size, k, none⟩ = some (.int .i64 0) := by
    have hb : wy.heap[wk.heap.size]? = some (.cells #[.int .i64 0, .int .i64 0, .int .i64 0, .int .i64 0, .int .i64 0, .int .i64 0, .int .i64 0, .int .i64 0, .int .i64 0, .int .i64 0] 31 (0, 0)) := by rw [hwy]; exact heap_alloc_new wk _
    intro k hk
    rcases (show k = 0 ∨ k = 1 ∨ k = 2 ∨ k = 3 ∨ k = 4 ∨ k = 5 ∨ k = 6 ∨ k = 7 ∨ k = 8 ∨ k = 9 by omega) with rfl | rfl | rfl | rfl | rfl | rfl | rfl | rfl | rfl | rfl
    all_goals exact cell_of_row wy wk.heap.size _ _ _ _ hb
  have HLy : Hid (RBs wy _) := Lib.hid (by rw [hwy]; exact HLk.out.below (by repeat' (first | with_reducible exact Below.refl _ _ | with_reducible refine below_drewN ?_ _ | with_reducible refine Below.drew ?_ | with_reducible refine Below.alloc ?_ ?_ _ | with_reducible refine Below.setCell ?_ ?_ _ | with_reducible refine Below.trans ?_ (Below.mono (by with_reducible assumption) ?_) | (simp; done) | (simp; omega) | omega)))
  have Hby : Hid (Below w.heap.size w wy) := Lib.hid (by rw [hwy]; exact Hbk.out.alloc hsk _)
  have hsy := Hby.out.size
  have Hze := Lib.hid hze
  clear hwy HLk Hbk hsk hze
  go_loop [28, 109] (fun _ i => ∃ k : Nat, k ≤ 10 ∧ i = .int .i64 (k : Int)) (fun _ i => 10 - (intOf i).toNat)
  case atStart => exact ⟨0, by omega, rfl⟩
  case round =>
    obtain ⟨k, hk, rfl⟩ := hrel
    by_cases hk10 : k < 10
    · have cz := Hze.out k hk10
      have hk' : (k : Int) < 10 := by omega
      go_wp2
      go_round
      case rel => exact ⟨k + 1, by omega, by go_num⟩
      case measure => simp [intOf]; omega
    · have hk' : ¬ (k : Int) < 10 := by omega
      go_upto_region 19 with fail
      have z7 : wy.cell? ⟨wq0.heap.size, 0, none⟩ = some (.slice Dq0 ab.length kq0) := (HLy.out _ (.tail _ (.tail _ (.tail _ (.tail _ (.tail _ (.tail _ (.tail _ (.tail _ (.tail _ (.head _))))))))))).c0
      have y7 : wq0.heap.size < wy.heap.size := (HLy.out _ (.tail _ (.tail _ (.tail _ (.tail _ (.tail _ (.tail _ (.tail _ (.tail _ (.tail _ (.head _))))))))))).lt
      have z9 : wy.cell? ⟨wq1.heap.size, 0, none⟩ = some (.slice Dq1 ab.length kq1) := (HLy.out _ (.tail _ (.tail _ (.tail _ (.tail _ (.tail _ (.tail _ (.tail _ (.tail _ (.head _)))))))))).c0
      have y9 : wq1.heap.size < wy.heap.size := (HLy.out _ (.tail _ (.tail _ (.tail _ (.tail _ (.tail _ (.tail _ (.tail _ (.tail _ (.head _)))))))))).lt
      have z13 : wy.cell? ⟨wq3.heap.size, 0, none⟩ = some (.slice Dq3 lf.length kq3) := (HLy.out _ (.tail _ (.tail _ (.tail _ (.tail _ (.tail _ (.tail _ (.head _)))))))).c0
      have y13 : wq3.heap.size < wy.heap.size := (HLy.out _ (.tail _ (.tail _ (.tail _ (.tail _ (.tail _ (.tail _ (.head _)))))))).lt
      have z15 : wy.cell? ⟨wq4.heap.size, 0, none⟩ = some (.slice Dq4 lf.length kq4) := (HLy.out _ (.tail _ (.tail _ (.tail _ (.tail _ (.tail _ (.head _))))))).c0
      have y15 : wq4.heap.size < wy.heap.size := (HLy.out _ (.tail _ (.tail _ (.tail _ (.tail _ (.tail _ (.head _))))))).lt
      have z19 : wy.cell? ⟨wq6.heap.size, 0, none⟩ = some (.slice Dq6 ra.length kq6) := (HLy.out _ (.tail _ (.tail _ (.tail _ (.head _))))).c0
      have y19 : wq6.heap.size < wy.heap.size := (HLy.out _ (.tail _ (.tail _ (.tail _ (.head _))))).lt
      have z4 : wy.cell? ⟨w3.heap.size, 0, none⟩ = some (.slice D1 ra.length k1) := (HLy.out _ (.tail _ (.tail _ (.tail _ (.tail _ (.tail _ (.tail _ (.tail _ (.tail _ (.tail _ (.tail _ (.tail _ (.tail _ (.head _)))))))))))))).c0
      have y4 : w3.heap.size < wy.heap.size := (HLy.out _ (.tail _ (.tail _ (.tail _ (.tail _ (.tail _ (.tail _ (.tail _ (.tail _ (.tail _ (.tail _ (.tail _ (.tail _ (.head _)))))))))))))).lt
      have z21 : wy.cell? ⟨wq7.heap.size, 0, none⟩ = some (.slice Dq7 rs.length kq7) := (HLy.out _ (.tail _ (.tail _ (.head _)))).c0
      have y21 : wq7.heap.size < wy.heap.size := (HLy.out _ (.tail _ (.tail _ (.head _)))).lt
      have z25 : wy.cell? ⟨wq9.heap.size, 0, none⟩ = some (.slice Dq9 rs.length kq9) := (HLy.out _ (.head _)).c0
      have y25 : wq9.heap.size < wy.heap.size := (HLy.out _ (.head _)).lt
      have z5 : wy.cell? ⟨w3.heap.size + 1, 0, none⟩ = some (.slice D2 rb.length k2) := (HLy.out _ (.tail _ (.tail _ (.tail _ (.tail _ (.tail _ (.tail _ (.tail _ (.tail _ (.tail _ (.tail _ (.tail _ (.head _))))))))))))).c0
      have y5 : w3.heap.size + 1 < wy.heap.size := (HLy.out _ (.tail _ (.tail _ (.tail _ (.tail _ (.tail _ (.tail _ (.tail _ (.tail _ (.tail _ (.tail _ (.tail _ (.head _))))))))))))).lt
      have z17 : wy.cell? ⟨wq5.heap.size, 0, none⟩ = some (.slice Dq5 bo.length kq5) := (HLy.out _ (.tail _ (.tail _ (.tail _ (.tail _ (.head _)))))).c0
      have y17 : wq5.heap.size < wy.heap.size := (HLy.out _ (.tail _ (.tail _ (.tail _ (.tail _ (.head _)))))).lt
      have S7 : Hid (∀ W, Below wy.heap.size wy W → Calls Try.prog 10 #[.agg #[.slice Dq0 ab.length kq0], .agg #[.slice Dq1 ab.length kq1]] W fun e w' => e = .returned (.bool true) ∧ Below W.heap.size W w') := Lib.hid (fun W hW => by have h := sameP_any Dq0 Dq1 ab.length kq0 ab.length kq1 ab ab W ((HLy.out _ (.tail _ (.tail _ (.tail _ (.tail _ (.tail _ (.tail _ (.tail _ (.tail _ (.tail _ (.head _))))))))))).sl.below hW) ((HLy.out _ (.tail _ (.tail _ (.tail _ (.tail _ (.tail _ (.tail _ (.tail _ (.tail _ (.head _)))))))))).sl.below hW); rw [decide_eq_true rfl] at h; exact h)
      have S13 : Hid (∀ W, Below wy.heap.size wy W → Calls Try.prog 10 #[.agg #[.slice Dq3 lf.length kq3], .agg #[.slice Dq4 lf.length kq4]] W fun e w' => e = .returned (.bool true) ∧ Below W.heap.size W w') := Lib.hid (fun W hW => by have h := sameP_any Dq3 Dq4 lf.length kq3 lf.length kq4 lf lf W ((HLy.out _ (.tail _ (.tail _ (.tail _ (.tail _ (.tail _ (.tail _ (.head _)))))))).sl.below hW) ((HLy.out _ (.tail _ (.tail _ (.tail _ (.tail _ (.tail _ (.head _))))))).sl.below hW); rw [decide_eq_true rfl] at h; exact h)
      have S19 : Hid (∀ W, Below wy.heap.size wy W → Calls Try.prog 10 #[.agg #[.slice Dq6 ra.length kq6], .agg #[.slice D1 ra.length k1]] W fun e w' => e = .returned (.bool true) ∧ Below W.heap.size W w') := Lib.hid (fun W hW => by have h := sameP_any Dq6 D1 ra.length kq6 ra.length k1 ra ra W ((HLy.out _ (.tail _ (.tail _ (.tail _ (.head _))))).sl.below hW) ((HLy.out _ (.tail _ (.tail _ (.tail _ (.tail _ (.tail _ (.tail _ (.tail _ (.tail _ (.tail _ (.tail _ (.tail _ (.tail _ (.head _)))))))))))))).sl.below hW); rw [decide_eq_true rfl] at h; exact h)
      have S21 : Hid (∀ W, Below wy.heap.size wy W → Calls Try.prog 10 #[.agg #[.slice Dq7 rs.length kq7], .agg #[.slice Dq9 rs.length kq9]] W fun e w' => e = .returned (.bool true) ∧ Below W.heap.size W w') := Lib.hid (fun W hW => by have h := sameP_any Dq7 Dq9 rs.length kq7 rs.length kq9 rs rs W ((HLy.out _ (.tail _ (.tail _ (.head _)))).sl.below hW) ((HLy.out _ (.head _)).sl.below hW); rw [decide_eq_true rfl] at h; exact h)
      have A4 : Hid (∀ W, Below wy.heap.size wy W → Calls Try.prog 18 #[.agg #[.slice D1 ra.length k1]] W fun e w' => e = .returned (.int .i64 (areaP ra)) ∧ Below W.heap.size W w') := Lib.hid (fun W hW => area_any D1 ra.length k1 ra W ((HLy.out _ (.tail _ (.tail _ (.tail _ (.tail _ (.tail _ (.tail _ (.tail _ (.tail _ (.tail _ (.tail _ (.tail _ (.tail _ (.head _)))))))))))))).sl.below hW))
      have A5 : Hid (∀ W, Below wy.heap.size wy W → Calls Try.prog 18 #[.agg #[.slice D2 rb.length k2]] W fun e w' => e = .returned (.int .i64 (areaP rb)) ∧ Below W.heap.size W w') := Lib.hid (fun W hW => area_any D2 rb.length k2 rb W ((HLy.out _ (.tail _ (.tail _ (.tail _ (.tail _ (.tail _ (.tail _ (.tail _ (.tail _ (.tail _ (.tail _ (.tail _ (.head _))))))))))))).sl.below hW))
      have A7 : Hid (∀ W, Below wy.heap.size wy W → Calls Try.prog 18 #[.agg #[.slice Dq0 ab.length kq0]] W fun e w' => e = .returned (.int .i64 (areaP ab)) ∧ Below W.heap.size W w') := Lib.hid (fun W hW => area_any Dq0 ab.length kq0 ab W ((HLy.out _ (.tail _ (.tail _ (.tail _ (.tail _ (.tail _ (.tail _ (.tail _ (.tail _ (.tail _ (.head _))))))))))).sl.below hW))
      have A17 : Hid (∀ W, Below wy.heap.size wy W → Calls Try.prog 18 #[.agg #[.slice Dq5 bo.length kq5]] W fun e w' => e = .returned (.int .i64 (areaP bo)) ∧ Below W.heap.size W w') := Lib.hid (fun W hW => area_any Dq5 bo.length kq5 bo W ((HLy.out _ (.tail _ (.tail _ (.tail _ (.tail _ (.head _)))))).sl.below hW))
      have HW : Hid (∀ W, Below wy.heap.size wy W → Calls Try.prog 12 #[] W fun e w' => e = .returned (.bool true) ∧ Below W.heap.size W w') := Lib.hid (fun W _ => awake_any W)
      have hsum := HE.out.area
      have b1 := HE.out.bda
      have b2 := HE.out.bdb
      have b3 := HE.out.bdc
      have b4 := HE.out.bdd
      clear HE Ra Rb Rc
      generalize areaP ra = na at *
      generalize areaP rb = nb at *
      generalize areaP ab = nc at *
      generalize areaP bo = nd at *
      have hw1 : IntKind.i64.wrap (na + nb) = nc + nd := by rw [IntWalk.i64_in _ (by omega)]; exact hsum
      have hw2 : IntKind.i64.wrap (nc + nd) = nc + nd := IntWalk.i64_in _ (by omega)
      refine wp_region_below wy.heap.size (Nat.le_refl _) (by kernel_rfl) (by kernel_rfl) ?_
      intro I _ F hFc hFb hFs
      have p7 := fun i => (hFc i (wq0.heap.size) 0 y7).trans z7
      have p9 := fun i => (hFc i (wq1.heap.size) 0 y9).trans z9
      have p13 := fun i => (hFc i (wq3.heap.size) 0 y13).trans z13
      have p15 := fun i => (hFc i (wq4.heap.size) 0 y15).trans z15
      have p19 := fun i => (hFc i (wq6.heap.size) 0 y19).trans z19
      have p4 := fun i => (hFc i (w3.heap.size) 0 y4).trans z4
      have p21 := fun i => (hFc i (wq7.heap.size) 0 y21).trans z21
      have p25 := fun i => (hFc i (wq9.heap.size) 0 y25).trans z25
      have p5 := fun i => (hFc i (w3.heap.size + 1) 0 y5).trans z5
      have p17 := fun i => (hFc i (wq5.heap.size) 0 y17).trans z17
      repeat (go_big_quiet_step ((first
        | (go_at_call 10; first | (with_reducible exact class_call hFb hFs (Nat.le_refl _) (S7.out _ (hFb _))) | (with_reducible exact class_call hFb hFs (Nat.le_refl _) (S13.out _ (hFb _))) | (with_reducible exact class_call hFb hFs (Nat.le_refl _) (S19.out _ (hFb _))) | (with_reducible exact class_call hFb hFs (Nat.le_refl _) (S21.out _ (hFb _))))
        | (go_at_call 18; first | (with_reducible exact class_call hFb hFs (Nat.le_refl _) (A4.out _ (hFb _))) | (with_reducible exact class_call hFb hFs (Nat.le_refl _) (A5.out _ (hFb _))) | (with_reducible exact class_call hFb hFs (Nat.le_refl _) (A7.out _ (hFb _))) | (with_reducible exact class_call hFb hFs (Nat.le_refl _) (A17.out _ (hFb _))))
        | (go_at_call 12; with_reducible exact class_call hFb hFs (Nat.le_refl _) (HW.out _ (hFb _))))))
      refine wpQuiet_nil ?_
      rintro _ ⟨iq, rfl⟩
      generalize hw4 : F iq = w4
      have Hb4 : Hid (Below wy.heap.size wy w4) := Lib.hid (by rw [← hw4]; exact hFb iq)
      clear hw4 hFc hFb hFs
      go_wp2
      go_ret
      exact ⟨rfl, Hby.out.trans (Hb4.out.mono hsy)⟩
end Go.Proofs.Ytmkopmcjilaedaa
