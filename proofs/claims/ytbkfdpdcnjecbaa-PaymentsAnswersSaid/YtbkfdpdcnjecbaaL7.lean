/- PaymentsAnswers: the walk. -/
import Derived.Test.YtbkfdpdcnjecbaaL5
import Derived.Test.YtbkfdpdcnjecbaaL3
import Derived.Test.YtbkfdpdcnjecbaaRo
import Derived.Test.YtbkfdpdcnjecbaaRc
import Derived.Test.YtbkfdpdcnjecbaaRw
import Derived.Test.YtbkfdpdcnjecbaaWr
namespace Go.Proofs.Ytbkfdpdcnjecbaa
open Go.RowKit
set_option linter.unusedVariables false


set_option maxHeartbeats 40000000 in
set_option maxRecDepth 100000 in
theorem answersLaw (A : Option Addr) (n c : Nat) (zs : List Int) (R1 R2 : Option Addr) (rn rc qn qc : Nat) (rs qs : List Int) (o : Ord4) (L : Option Addr) (ln lc : Nat) (l : List Ord4) (kb at_ tb : Int) (w : World) (hn : zs.length = n) (hc : n ≤ c) (hm : c ≤ maxLen) (hw : ∀ z ∈ zs, (Lit.int .i64 z).wf = true) (hA : Lies w A n (zs.map (.int .i64)))
    (hR1 : Sl8 w R1 rn rc rs) (hR2 : Sl8 w R2 qn qc qs) (hll : l.length = ln) (hlc : ln ≤ lc ∧ lc ≤ maxLen) (hL : Lies w L ln (ordCells l)) (hkb : -9223372036854775808 ≤ kb ∧ kb ≤ 9223372036854775807) (hat : -9223372036854775808 ≤ at_ ∧ at_ ≤ 9223372036854775807) (hto : 0 ≤ tb ∧ tb ≤ 255) :
    Calls Try.prog 8 #[.slice A n c, .agg #[.slice R1 rn rc, .slice R2 qn qc], .agg #[.int .i64 o.n, .int .i64 o.f, .int .i64 o.a, .int .i64 o.d], .slice L ln lc, .int .i64 kb, .int .i64 at_, .int .u8 tb] w fun e w' => e = .returned (.bool true) ∧ Below w.heap.size w w' := by
  have HN := Lib.hid (fun W h => new_any A n c zs W hn hc hm hw h)
  have HA := Lib.hid hA
  have HR1 := Lib.hid hR1
  have HR2 := Lib.hid hR2
  have HL := Lib.hid hL
  have Hll := Lib.hid hll
  obtain ⟨i0, hi, hz0, hz1, hz2⟩ := info_parts Try.infoByte
  clear hn hw hA hR1 hR2 hL hll
  go_enter Try.func8, Try.ntmps8
  by_cases b1 : (6000 : Int) < (rn : Int)
  · go_wp2_with (first | (go_at_call 18; refine (awake_any _).mono ?_; rintro e w1 ⟨rfl, hb1⟩) | fail)
    all_goals go_ret
    all_goals exact ⟨rfl, (by repeat' (first | with_reducible exact Below.refl _ _ | with_reducible assumption | with_reducible refine below_drewN ?_ _ | with_reducible refine Below.drew ?_ | with_reducible refine Below.alloc ?_ ?_ _ | with_reducible refine Below.setCell ?_ ?_ _ | with_reducible refine Below.trans ?_ (Below.mono (by with_reducible assumption) ?_) | with_reducible refine below_only ?_ (by with_reducible assumption) ?_ ?_ | (simp; done) | (simp; omega) | omega))⟩
  by_cases b2 : (6000 : Int) < (qn : Int)
  · go_wp2_with (first | (go_at_call 18; refine (awake_any _).mono ?_; rintro e w1 ⟨rfl, hb1⟩) | fail)
    all_goals go_ret
    all_goals exact ⟨rfl, (by repeat' (first | with_reducible exact Below.refl _ _ | with_reducible assumption | with_reducible refine below_drewN ?_ _ | with_reducible refine Below.drew ?_ | with_reducible refine Below.alloc ?_ ?_ _ | with_reducible refine Below.setCell ?_ ?_ _ | with_reducible refine Below.trans ?_ (Below.mono (by with_reducible assumption) ?_) | with_reducible refine below_only ?_ (by with_reducible assumption) ?_ ?_ | (simp; done) | (simp; omega) | omega))⟩
  by_cases b3 : (300 : Int) < (ln : Int)
  · go_wp2_with (first | (go_at_call 18; refine (awake_any _).mono ?_; rintro e w1 ⟨rfl, hb1⟩) | fail)
    all_goals go_ret
    all_goals exact ⟨rfl, (by repeat' (first | with_reducible exact Below.refl _ _ | with_reducible assumption | with_reducible refine below_drewN ?_ _ | with_reducible refine Below.drew ?_ | with_reducible refine Below.alloc ?_ ?_ _ | with_reducible refine Below.setCell ?_ ?_ _ | with_reducible refine Below.trans ?_ (Below.mono (by with_reducible assumption) ?_) | with_reducible refine below_only ?_ (by with_reducible assumption) ?_ ?_ | (simp; done) | (simp; omega) | omega))⟩
  go_upto_region 3 with fail
  obtain ⟨w0, hw0⟩ : ∃ w0 : World, w0 = (w.alloc (.cells #[.slice R1 rn rc, .slice R2 qn qc] 28)).alloc (.cells #[.int .i64 o.n, .int .i64 o.f, .int .i64 o.a, .int .i64 o.d] 32) := ⟨_, rfl⟩
  rw [← hw0]
  have hbw : Below w.heap.size w w0 := by rw [hw0]; exact (by repeat' (first | with_reducible exact Below.refl _ _ | with_reducible refine below_drewN ?_ _ | with_reducible refine Below.drew ?_ | with_reducible refine Below.alloc ?_ ?_ _ | with_reducible refine Below.setCell ?_ ?_ _ | with_reducible refine Below.trans ?_ (Below.mono (by with_reducible assumption) ?_) | (simp; done) | (simp; omega) | omega))
  have Hbw := Lib.hid hbw
  have hraw : TB w0 w.heap.size R1 rn rc R2 qn qc := by rw [hw0]; exact (TB.new w _ _ _ _ _ _).alloc _
  have Hraw := Lib.hid hraw
  have hob : w0.heap[w.heap.size + 1]? = some (.cells #[.int .i64 o.n, .int .i64 o.f, .int .i64 o.a, .int .i64 o.d] 32 (0, 0)) := by rw [hw0]; exact heap_alloc2_new w _ _
  have Hob := Lib.hid hob
  have hs0 : w.heap.size + 1 < w0.heap.size := by rw [hw0]; simp
  clear hw0 hbw hraw hob
  go_wp2_with fail
  refine (HN.out _ (HA.out.below Hbw.out)).mono ?_
  rintro e w1 ⟨g, rfl, hg, ht, hb1⟩
  generalize zs.take 400 = r at *
  have Hb1 := Lib.hid hb1
  have hs1 := hb1.size
  have hgl := ht.lt
  go_wp2_with fail
  refine (tape_any g r _ ht).mono ?_
  rintro e w2 ⟨A1, n1, c1, B1, m1, d1, v1, rfl, hA1, hB1, hown1, ht1, hg1, hfA1, hfB1⟩
  obtain ⟨hfine, hcnt⟩ := mk_fine r
  generalize mkTape r = t at *
  obtain ⟨V, vc, rfl, _, _⟩ := own_slice hown1
  have Hb2 := Lib.hid (below_only hb1 hg1 hg hb1.size)
  have hs2 := Hb2.out.size
  have Hx2 := Lib.hid (TB.new w2 A1 n1 c1 B1 m1 d1)
  have HA2 := Lib.hid (hA1.alloc (.cells #[.slice A1 n1 c1, .slice B1 m1 d1] 28))
  have HB2 := Lib.hid (hB1.alloc (.cells #[.slice A1 n1 c1, .slice B1 m1 d1] 28))
  have Ht2 := Lib.hid (ht1.alloc (.cells #[.slice A1 n1 c1, .slice B1 m1 d1] 28))
  have hns : n1 + m1 ≤ 140 := by
    have h1 := congrArg List.length hfine.bytes
    rw [List.length_append, recs_len, hA1.len, hB1.len] at h1
    omega
  have hgs := ht1.lt
  have HfA1 := Lib.hid hfA1
  have HfB1 := Lib.hid hfB1
  clear hA1 hB1 hown1 ht ht1 hg1 hfA1 hfB1 hb1 hfine hcnt
  obtain ⟨wv, hwv⟩ : ∃ wv : World, wv = w2.alloc (.cells #[.slice A1 n1 c1, .slice B1 m1 d1] 28) := ⟨_, rfl⟩
  have hsv : w2.heap.size < wv.heap.size := by rw [hwv]; simp
  have Hbv : Hid (Below w0.heap.size w0 wv) := Lib.hid (by rw [hwv]; exact Hb2.out.alloc (by omega) _)
  rw [← hwv] at Hx2 HA2 HB2 Ht2
  obtain ⟨x20, x21, _, _⟩ := Hx2.out.facts
  go_upto_region 5 with fail
  rw [← hwv]
  clear hwv
  go_wp2_with fail
  refine (syncR_any A1 B1 n1 c1 m1 d1 t.s t.u _ (by omega) HA2.out HB2.out).mono ?_
  rintro e w3 ⟨A3, c3, rfl, hA3, hown3, hb3⟩
  have hxl : (t.s ++ t.u).length ≤ 140 := by rw [List.length_append, HA2.out.len, HB2.out.len]; exact hns
  generalize t.s ++ t.u = xs at *
  have hs3 := hb3.size
  have Hb3 := Lib.hid hb3
  have Hown3 := Lib.hid hown3
  have HA3 := Lib.hid hA3
  clear hb3 hown3 hA3
  go_upto_region 6 with fail
  obtain ⟨ws, hws⟩ : ∃ ws : World, ws = w3.alloc (.cells #[.slice A3 xs.length c3, .slice none 0 0] 28) := ⟨_, rfl⟩
  have hss : w3.heap.size < ws.heap.size := by rw [hws]; simp
  have Hbs : Hid (Below wv.heap.size wv ws) := Lib.hid (by rw [hws]; exact Hb3.out.alloc hs3 _)
  have Hod : Hid (TB ws w3.heap.size A3 xs.length c3 none 0 0) := Lib.hid (by rw [hws]; exact TB.new _ _ _ _ _ _ _)
  have Howns : Hid (ws.ownsRow wv.heap.size 5 1 (.slice A3 xs.length c3) xs.length (xs.map (.int .u8))) := Lib.hid (by rw [hws]; exact Hown3.out.alloc _)
  have HAs : Hid (Sl8 ws A3 xs.length c3 xs) := Lib.hid (by rw [hws]; exact HA3.out.alloc _)
  rw [← hws]
  obtain ⟨d0, d1', _, _⟩ := Hod.out.facts
  have HfA3 : Hid (∀ ad, A3 = some ad → wv.heap.size ≤ ad.block) := Lib.hid (fun ad h => own_base Howns.out ad.block (by rw [h]; rfl))
  clear hws x20 x21
  go_upto_if 70 with fail
  go_cut [] (fun wx => ∃ zs : List Int, Sl8 wx A3 xs.length c3 zs ∧ TB wx w3.heap.size A3 xs.length c3 none 0 0 ∧ Below wv.heap.size wv wx)
  case first =>
    have hbs := Hbs.out
    by_cases h0 : 0 < xs.length
    · have h0' : (0 : Int) < (xs.length : Int) := by omega
      obtain ⟨gg, cap, cur, hv3, hgg, hcur, hcap, hcm, hcs, htk⟩ := Howns.out.2.resolve_left (fun h => by omega)
      injection hv3 with hv3 _ hv4
      subst hv3 hv4
      have hmv := modV_bd at_ (xs.length : Int) (by omega)
      obtain ⟨p, hp⟩ := Int.eq_ofNat_of_zero_le hmv.1
      have hpn : p < xs.length := by omega
      have HM := Lib.hid (fun W => mod_any at_ (xs.length : Int) W hat (by omega))
      rw [hp] at HM
      clear hmv hp
      have hpc : (p : Int) < (xs.length : Int) := by omega
      obtain ⟨xv, hxv⟩ : ∃ xv, cur[p]? = some xv := ⟨_, Array.getElem?_eq_getElem (show p < cur.size by omega)⟩
      have hcp : ws.cell? ⟨gg, p, none⟩ = some xv := by rw [cell_of_row ws gg p _ _ _ hcur]; exact hxv
      have hfp : ws.frozen? ⟨gg, p, none⟩ = false := frozen_of_row ws gg p _ _ hcur
      have hne : gg ≠ w3.heap.size := by
        rintro rfl
        have h1 := Hod.out.eq
        rw [hcur] at h1
        injection h1 with h1
        injection h1 with _ h1
        revert h1
        decide
      clear hcur htk hcs hxv
      go_upto_region 8 with fail
      go_region_held3 (fun w' => w'.cell? ⟨w3.heap.size, 0, none⟩ = some (.slice (some ⟨gg, 0, none⟩) xs.length c3))
        (first | go_keep)
        (first
          | (go_at_call 27; refine (HM.out _).mono ?_; rintro e w' ⟨rfl, rfl⟩)
          | fail)
      all_goals
        go_wp2
        go_meet
        case rel =>
          have hbad : (ws.setCell ⟨gg, p, none⟩ (.int .u8 tb)).ownsRow wv.heap.size 5 1 (.slice (some ⟨gg, 0, none⟩) xs.length c3) xs.length ((xs.set p tb).map (.int .u8)) := by
            rw [List.map_set]
            exact own_set Howns.out p _
          obtain ⟨X5, y5, he5, hX5⟩ := Sl8.of_own hbad (by rw [List.length_set]) (HAs.out.byt.set p tb hto)
          injection he5 with he5 _ he6
          subst he5 he6
          refine ⟨xs.set p tb, hX5.below (Below.drew (Below.refl _ _)), ?_, (by repeat' (first | with_reducible exact Below.refl _ _ | with_reducible assumption | with_reducible refine below_drewN ?_ _ | with_reducible refine Below.drew ?_ | with_reducible refine Below.alloc ?_ ?_ _ | with_reducible refine Below.setCell ?_ ?_ _ | with_reducible refine Below.trans ?_ (Below.mono (by with_reducible assumption) ?_) | with_reducible refine below_only ?_ (by with_reducible assumption) ?_ ?_ | (simp; done) | (simp; omega) | omega))⟩
          exact TB.below ⟨(Below.heap_setCell _ _ _ _ (fun e => hne (by simpa using e.symm))).trans Hod.out.eq⟩ (Below.drew (Below.refl _ _))
    · have h0' : ¬ (0 : Int) < (xs.length : Int) := by omega
      go_wp2
      go_meet
      case rel => exact ⟨xs, HAs.out, Hod.out, hbs⟩
  case rest =>
    obtain ⟨w4, rfl⟩ : ∃ w4 : World, w4 = wc := ⟨_, rfl⟩
    obtain ⟨ys, hA4, hod4, hb4⟩ := hcut
    have hsz4 := hb4.size
    have HA4 := Lib.hid hA4
    have Hod4 := Lib.hid hod4
    have Hb4 := Lib.hid hb4
    have hlt4 := hod4.lt
    clear hA4 hod4 hb4 d0 d1' Howns HAs Hod Hbs HA3 Hown3 Hb3
    have HM := Lib.hid (fun W => mod_any at_ 20 W hat (by omega))
    go_wp2_with (first | (go_at_call 27; refine (HM.out _).mono ?_; rintro e w' ⟨rfl, rfl⟩) | fail)
    refine (order2_any g _ _ _ (Ht2.out.below Hb4.out (by omega))).mono ?_
    rintro e w5 ⟨rfl, ht5, hg5⟩
    generalize mkO t.r (modV at_ 20) = o2
    have hgv : g < wv.heap.size := by omega
    have hxb := (Hx2.out.below Hb4.out).grown hg5 (by intro e; injection e; omega)
    have hxA := (HA2.out.below Hb4.out).grown0 hg5 (fun h0 ad e e2 => by have := (HfA1.out h0 ad e).1; injection e2; omega)
    have hxB := (HB2.out.below Hb4.out).grown0 hg5 (fun h0 ad e e2 => by have := (HfB1.out h0 ad e).1; injection e2; omega)
    have hdb := Hod4.out.grown hg5 (by intro e; injection e; omega)
    have hdA := HA4.out.grown hg5 (fun ad e e2 => by have := HfA3.out ad e; injection e2; omega)
    have h05 : Below w0.heap.size w0 w5 := below_only (Hbv.out.trans (Hb4.out.mono Hbv.out.size)) hg5 (by omega) (by have := Hbv.out.size; omega)
    have hw5 : Below w.heap.size w w5 := Hbw.out.trans (h05.mono (by omega))
    have hrb := Hraw.out.below h05
    have hrA := HR1.out.below hw5
    have hrB := HR2.out.below hw5
    have ho5 : w5.heap[w.heap.size + 1]? = some (.cells #[.int .i64 o.n, .int .i64 o.f, .int .i64 o.a, .int .i64 o.d] 32 (0, 0)) := (h05.block _ (by omega)).trans Hob.out
    have hl5 := HL.out.below hw5
    have hs5 : w.heap.size + 1 < w5.heap.size := by have := h05.size; omega
    obtain ⟨xc0, xc1, _, _⟩ := hxb.facts
    obtain ⟨dc0, dc1, _, _⟩ := hdb.facts
    obtain ⟨rc0, rc1, _, _⟩ := hrb.facts
    have HxA := Lib.hid hxA
    have HxB := Lib.hid hxB
    have HdA := Lib.hid hdA
    have HrA := Lib.hid hrA
    have HrB := Lib.hid hrB
    have Ho5 := Lib.hid ho5
    have HL5 := Lib.hid hl5
    have Hw5 := Lib.hid hw5
    have hltx := hxb.lt
    have hltd := hdb.lt
    have hltr := hrb.lt
    have hxy : w2.heap.size ≠ w3.heap.size := by omega
    clear hxA hxB hdA hrA hrB ho5 hl5 hw5 h05 hxb hdb hrb ht5 hg5 HA2 HB2 Hx2 Ht2 Hod4 HA4 Hb4 Hb2 Hb1 Hbv Hbw Hraw Hob HR1 HR2 HL HA HN HfA1 HfB1 HfA3
    go_upto_region 11 with fail
    obtain ⟨wb, hwb⟩ : ∃ wb : World, wb = (w5.alloc (.cells #[.int .i64 o2.n, .int .i64 o2.f, .int .i64 o2.a, .int .i64 o2.d] 32)).alloc (.cells #[.slice A1 n1 c1, .slice B1 m1 d1, .slice A3 xs.length c3, .slice none 0 0, .slice R1 rn rc, .slice R2 qn qc] 28) := ⟨_, rfl⟩
    rw [← hwb]
    have hT : wb.heap[w5.heap.size + 1]? = some (.cells #[.slice A1 n1 c1, .slice B1 m1 d1, .slice A3 xs.length c3, .slice none 0 0, .slice R1 rn rc, .slice R2 qn qc] 28 (0, 0)) := by rw [hwb]; exact heap_alloc2_new _ _ _
    have hG : wb.heap[w5.heap.size]? = some (.cells #[.int .i64 o2.n, .int .i64 o2.f, .int .i64 o2.a, .int .i64 o2.d] 32 (0, 0)) := by rw [hwb]; exact heap_alloc2_old _ _ _
    have hbb : Below w5.heap.size w5 wb := by rw [hwb]; exact (by repeat' (first | with_reducible exact Below.refl _ _ | with_reducible refine below_drewN ?_ _ | with_reducible refine Below.drew ?_ | with_reducible refine Below.alloc ?_ ?_ _ | with_reducible refine Below.setCell ?_ ?_ _ | with_reducible refine Below.trans ?_ (Below.mono (by with_reducible assumption) ?_) | (simp; done) | (simp; omega) | omega))
    have hsb : w5.heap.size + 1 < wb.heap.size := by rw [hwb]; simp
    have HG := Lib.hid hG
    have Hbb := Lib.hid hbb
    have Htapes : Hid (∀ i, i < 3 → ∃ (A : Option Addr) (n c : Nat) (B : Option Addr) (m d : Nat) (xs us : List Int), Sl8 wb A n c xs ∧ Sl8 wb B m d us ∧ n ≤ 6000 ∧ m ≤ 6000 ∧ wb.cell? ⟨w5.heap.size + 1, i * 2, none⟩ = some (.slice A n c) ∧ wb.cell? ⟨w5.heap.size + 1, i * 2 + 1, none⟩ = some (.slice B m d)) := Lib.hid (by
      intro i hi
      rcases (show i = 0 ∨ i = 1 ∨ i = 2 by omega) with rfl | rfl | rfl
      · exact ⟨_, _, _, _, _, _, _, _, HxA.out.below hbb, HxB.out.below hbb, by omega, by omega, cell_of_row wb _ 0 _ _ _ hT, cell_of_row wb _ 1 _ _ _ hT⟩
      · exact ⟨_, _, _, _, _, _, _, _, HdA.out.below hbb, Sl8.nil_ _, by omega, by omega, cell_of_row wb _ 2 _ _ _ hT, cell_of_row wb _ 3 _ _ _ hT⟩
      · exact ⟨_, _, _, _, _, _, _, _, HrA.out.below hbb, HrB.out.below hbb, by omega, by omega, cell_of_row wb _ 4 _ _ _ hT, cell_of_row wb _ 5 _ _ _ hT⟩)
    clear hT hG hbb hwb xc0 xc1 dc0 dc1 rc0 rc1 HxA HxB HdA HrA HrB
    go_loopw [87] (fun k wr => ∃ i : Nat, i ≤ 3 ∧ k = .int .i64 (i : Int) ∧ Below wb.heap.size wb wr) (fun k _ => 3 - (intOf k).toNat)
    case atStart => exact ⟨0, by omega, rfl, Below.refl _ _⟩
    case round =>
      obtain ⟨wo, rfl⟩ : ∃ wo : World, wo = wr := ⟨_, rfl⟩
      obtain ⟨i, hi3, rfl, hbo⟩ := hrel
      have hso := hbo.size
      have Hbo := Lib.hid hbo
      by_cases hi : i < 3
      · obtain ⟨C, cn, cc, D, dn, dc, xs, us, hC, hD, hcn, hdn, hc0, hc1⟩ := Htapes.out i hi
        have y0 := (hbo.cell (p := ⟨w5.heap.size + 1, i * 2, none⟩) hsb).trans hc0
        have y1 := (hbo.cell (p := ⟨w5.heap.size + 1, i * 2 + 1, none⟩) hsb).trans hc1
        have HC := Lib.hid (hC.below hbo)
        have HD := Lib.hid (hD.below hbo)
        clear hC hD hc0 hc1 hbo
        have hi3' : (i : Int) < 3 := by omega
        go_upto_region 13 with fail
        obtain ⟨wy, hwy⟩ : ∃ wy : World, wy = wo.alloc (.cells #[.slice C cn cc, .slice D dn dc] 28) := ⟨_, rfl⟩
        have hsy : wo.heap.size < wy.heap.size := by rw [hwy]; simp
        have Hyy : Hid (TB wy wo.heap.size C cn cc D dn dc) := Lib.hid (by rw [hwy]; exact TB.new _ _ _ _ _ _ _)
        have HCy : Hid (Sl8 wy C cn cc xs) := Lib.hid (by rw [hwy]; exact HC.out.alloc _)
        have HDy : Hid (Sl8 wy D dn dc us) := Lib.hid (by rw [hwy]; exact HD.out.alloc _)
        have Hboy : Hid (Below wb.heap.size wb wy) := Lib.hid (by rw [hwy]; exact Hbo.out.alloc hso _)
        rw [← hwy]
        clear hwy y0 y1 HC HD
        obtain ⟨y0, y1, _, _⟩ := Hyy.out.facts
        have hxu : (xs ++ us).length ≤ 12000 := by rw [List.length_append, HCy.out.len, HDy.out.len]; omega
        have hcnt := ordsB_count (xs ++ us)
        go_wp2_with fail
        refine (ordersP_any C D cn cc dn dc xs us _ (by omega) HCy.out HDy.out).mono ?_
        rintro e w13 ⟨v13, rfl, hown13, hb13⟩
        obtain ⟨y0b, y1b, _, _⟩ := (Hyy.out.below hb13).facts
        have hs13 := hb13.size
        go_wp2_with fail
        refine (ordersR_any C D cn cc dn dc xs us _ (by omega) (HCy.out.below hb13) (HDy.out.below hb13)).mono ?_
        rintro e w14 ⟨v14, rfl, hown14, hb14⟩
        have hol : (ordsB (xs ++ us)).1.length ≤ 1000000 := by omega
        generalize (ordsB (xs ++ us)).1 = os' at *
        generalize ((ordsB (xs ++ us)).2.length : Int) = rest' at *
        clear hcnt
        obtain ⟨G1, g1c, rfl, hG1, _⟩ := own_slice hown13
        obtain ⟨G2, g2c, rfl, hG2, _⟩ := own_slice hown14
        have hby : Below wy.heap.size wy w14 := hb13.trans (hb14.mono hs13)
        have hs14 := hby.size
        have HG1 := Lib.hid (hG1.below hb14)
        have HG2 := Lib.hid hG2
        have Hy14 := Lib.hid (Hyy.out.below hby)
        have HC14 := Lib.hid (HCy.out.below hby)
        have HD14 := Lib.hid (HDy.out.below hby)
        have Hb14 := Lib.hid (show Below wb.heap.size wb w14 from Hboy.out.trans (hby.mono (by omega)))
        have hlt14 := Hy14.out.lt
        clear hown13 hown14 hb13 hb14 hG1 hG2 hby y0 y1 y0b y1b HCy HDy Hyy Hboy
        obtain ⟨y0, y1, _, _⟩ := Hy14.out.facts
        obtain ⟨z, hz⟩ : ∃ z, xs ++ us = z := ⟨_, rfl⟩
        obtain ⟨fz, hfz⟩ : ∃ fz, fixB (xs ++ us) = fz := ⟨_, rfl⟩
        have Hz := Lib.hid hz
        have Hfz := Lib.hid hfz
        clear hz hfz
        go_upto_region 15 with fail
        go_cut [125] (fun s125 wz => s125 = .bool false ∧ Below w14.heap.size w14 wz)
        case first =>
          go_region_held3 (fun w' => w'.cell? ⟨wo.heap.size, 0, none⟩ = some (.slice C cn cc) ∧ w'.cell? ⟨wo.heap.size, 1, none⟩ = some (.slice D dn dc))
            (first | go_keep | ((repeat' apply And.intro) <;> go_keep))
            (first
              | (go_at_call 17; refine (lists_any _ _ _ _ _ _ os' os' _ rfl rfl (by omega) (by omega) (HG1.out.below (by repeat' (first | with_reducible exact Below.refl _ _ | with_reducible refine below_drewN ?_ _ | with_reducible refine Below.drew ?_ | with_reducible refine Below.alloc ?_ ?_ _ | with_reducible refine Below.setCell ?_ ?_ _ | with_reducible refine Below.trans ?_ (Below.mono (by with_reducible assumption) ?_) | (simp; done) | (simp; omega) | omega))) (HG2.out.below (by repeat' (first | with_reducible exact Below.refl _ _ | with_reducible refine below_drewN ?_ _ | with_reducible refine Below.drew ?_ | with_reducible refine Below.alloc ?_ ?_ _ | with_reducible refine Below.setCell ?_ ?_ _ | with_reducible refine Below.trans ?_ (Below.mono (by with_reducible assumption) ?_) | (simp; done) | (simp; omega) | omega)))).mono ?_; rintro e w15 ⟨rfl, hb15⟩; rw [decide_eq_true rfl]; have Hk15 : Hid (Below w14.heap.size w14 w15) := Lib.hid (show Below w14.heap.size w14 w15 from (by have hbq := hb15;  exact (by repeat' (first | with_reducible exact Below.refl _ _ | with_reducible assumption | with_reducible refine below_drewN ?_ _ | with_reducible refine Below.drew ?_ | with_reducible refine Below.alloc ?_ ?_ _ | with_reducible refine Below.setCell ?_ ?_ _ | with_reducible refine Below.trans ?_ (Below.mono (by with_reducible assumption) ?_) | with_reducible refine below_only ?_ (by with_reducible assumption) ?_ ?_ | (simp; done) | (simp; omega) | omega)))); have Hs15 : Hid (w14.heap.size ≤ w15.heap.size) := Hk15.out.size; obtain ⟨p015, p115, _, _⟩ := (Hy14.out.below Hk15.out).facts; clear hb15)
              | (go_at_call 14; refine (syncP_any C D cn cc dn dc xs us _ (by omega) (HC14.out.below (by have hp := Hk15.out; have hs := Hs15.out; exact (by repeat' (first | with_reducible exact Below.refl _ _ | with_reducible assumption | with_reducible refine below_drewN ?_ _ | with_reducible refine Below.drew ?_ | with_reducible refine Below.alloc ?_ ?_ _ | with_reducible refine Below.setCell ?_ ?_ _ | with_reducible refine Below.trans ?_ (Below.mono (by with_reducible assumption) ?_) | with_reducible refine below_only ?_ (by with_reducible assumption) ?_ ?_ | (simp; done) | (simp; omega) | omega)))) (HD14.out.below (by have hp := Hk15.out; have hs := Hs15.out; exact (by repeat' (first | with_reducible exact Below.refl _ _ | with_reducible assumption | with_reducible refine below_drewN ?_ _ | with_reducible refine Below.drew ?_ | with_reducible refine Below.alloc ?_ ?_ _ | with_reducible refine Below.setCell ?_ ?_ _ | with_reducible refine Below.trans ?_ (Below.mono (by with_reducible assumption) ?_) | with_reducible refine below_only ?_ (by with_reducible assumption) ?_ ?_ | (simp; done) | (simp; omega) | omega))))).mono ?_; rintro e w16 ⟨A16, n16, c16, B16, m16, d16, rfl, hA16, hB16, hb16, _⟩; rw [Hz.out] at hA16; have HA16 := Lib.hid hA16; have HB16 := Lib.hid hB16; clear hA16 hB16; have Hk16 : Hid (Below w14.heap.size w14 w16) := Lib.hid (show Below w14.heap.size w14 w16 from (by have hbq := hb16; have hp := Hk15.out; have hs := Hs15.out; exact (by repeat' (first | with_reducible exact Below.refl _ _ | with_reducible assumption | with_reducible refine below_drewN ?_ _ | with_reducible refine Below.drew ?_ | with_reducible refine Below.alloc ?_ ?_ _ | with_reducible refine Below.setCell ?_ ?_ _ | with_reducible refine Below.trans ?_ (Below.mono (by with_reducible assumption) ?_) | with_reducible refine below_only ?_ (by with_reducible assumption) ?_ ?_ | (simp; done) | (simp; omega) | omega)))); have Hs16 : Hid (w14.heap.size ≤ w16.heap.size) := Hk16.out.size; obtain ⟨p016, p116, _, _⟩ := (Hy14.out.below Hk16.out).facts; clear hb16)
              | (go_at_call 26; refine (syncR_any C D cn cc dn dc xs us _ (by omega) (HC14.out.below (by have hp := Hk16.out; have hs := Hs16.out; exact (by repeat' (first | with_reducible exact Below.refl _ _ | with_reducible assumption | with_reducible refine below_drewN ?_ _ | with_reducible refine Below.drew ?_ | with_reducible refine Below.alloc ?_ ?_ _ | with_reducible refine Below.setCell ?_ ?_ _ | with_reducible refine Below.trans ?_ (Below.mono (by with_reducible assumption) ?_) | with_reducible refine below_only ?_ (by with_reducible assumption) ?_ ?_ | (simp; done) | (simp; omega) | omega)))) (HD14.out.below (by have hp := Hk16.out; have hs := Hs16.out; exact (by repeat' (first | with_reducible exact Below.refl _ _ | with_reducible assumption | with_reducible refine below_drewN ?_ _ | with_reducible refine Below.drew ?_ | with_reducible refine Below.alloc ?_ ?_ _ | with_reducible refine Below.setCell ?_ ?_ _ | with_reducible refine Below.trans ?_ (Below.mono (by with_reducible assumption) ?_) | with_reducible refine below_only ?_ (by with_reducible assumption) ?_ ?_ | (simp; done) | (simp; omega) | omega))))).mono ?_; rintro e w17 ⟨A17, c17, rfl, hA17, _, hb17⟩; rw [Hz.out] at hA17 ⊢; have HA17 := Lib.hid hA17; have HA16b : Hid (Sl8 w17 A16 n16 c16 z) := Lib.hid (show Sl8 w17 A16 n16 c16 z from HA16.out.below (by have hbq := hb17; exact (by repeat' (first | with_reducible exact Below.refl _ _ | with_reducible assumption | with_reducible refine below_drewN ?_ _ | with_reducible refine Below.drew ?_ | with_reducible refine Below.alloc ?_ ?_ _ | with_reducible refine Below.setCell ?_ ?_ _ | with_reducible refine Below.trans ?_ (Below.mono (by with_reducible assumption) ?_) | with_reducible refine below_only ?_ (by with_reducible assumption) ?_ ?_ | (simp; done) | (simp; omega) | omega)))); have HB16b : Hid (Sl8 w17 B16 m16 d16 []) := Lib.hid (show Sl8 w17 B16 m16 d16 [] from HB16.out.below (by have hbq := hb17; exact (by repeat' (first | with_reducible exact Below.refl _ _ | with_reducible assumption | with_reducible refine below_drewN ?_ _ | with_reducible refine Below.drew ?_ | with_reducible refine Below.alloc ?_ ?_ _ | with_reducible refine Below.setCell ?_ ?_ _ | with_reducible refine Below.trans ?_ (Below.mono (by with_reducible assumption) ?_) | with_reducible refine below_only ?_ (by with_reducible assumption) ?_ ?_ | (simp; done) | (simp; omega) | omega)))); clear hA17; have Hk17 : Hid (Below w14.heap.size w14 w17) := Lib.hid (show Below w14.heap.size w14 w17 from (by have hbq := hb17; have hp := Hk16.out; have hs := Hs16.out; exact (by repeat' (first | with_reducible exact Below.refl _ _ | with_reducible assumption | with_reducible refine below_drewN ?_ _ | with_reducible refine Below.drew ?_ | with_reducible refine Below.alloc ?_ ?_ _ | with_reducible refine Below.setCell ?_ ?_ _ | with_reducible refine Below.trans ?_ (Below.mono (by with_reducible assumption) ?_) | with_reducible refine below_only ?_ (by with_reducible assumption) ?_ ?_ | (simp; done) | (simp; omega) | omega)))); have Hs17 : Hid (w14.heap.size ≤ w17.heap.size) := Hk17.out.size; obtain ⟨p017, p117, _, _⟩ := (Hy14.out.below Hk17.out).facts; clear hb17)
              | (go_at_call_of 21 A17; refine (same_any A16 B16 A17 none n16 c16 m16 d16 _ c17 0 0 z [] z [] _ (HA16b.out.below (by repeat' (first | with_reducible exact Below.refl _ _ | with_reducible refine below_drewN ?_ _ | with_reducible refine Below.drew ?_ | with_reducible refine Below.alloc ?_ ?_ _ | with_reducible refine Below.setCell ?_ ?_ _ | with_reducible refine Below.trans ?_ (Below.mono (by with_reducible assumption) ?_) | (simp; done) | (simp; omega) | omega))) (HB16b.out.below (by repeat' (first | with_reducible exact Below.refl _ _ | with_reducible refine below_drewN ?_ _ | with_reducible refine Below.drew ?_ | with_reducible refine Below.alloc ?_ ?_ _ | with_reducible refine Below.setCell ?_ ?_ _ | with_reducible refine Below.trans ?_ (Below.mono (by with_reducible assumption) ?_) | (simp; done) | (simp; omega) | omega))) (HA17.out.below (by repeat' (first | with_reducible exact Below.refl _ _ | with_reducible refine below_drewN ?_ _ | with_reducible refine Below.drew ?_ | with_reducible refine Below.alloc ?_ ?_ _ | with_reducible refine Below.setCell ?_ ?_ _ | with_reducible refine Below.trans ?_ (Below.mono (by with_reducible assumption) ?_) | (simp; done) | (simp; omega) | omega))) (Sl8.nil_ _)).mono ?_; rintro e w18 ⟨rfl, hb18⟩; rw [decide_eq_true rfl, decide_eq_true rfl, Bool.and_self]; have Hk18 : Hid (Below w14.heap.size w14 w18) := Lib.hid (show Below w14.heap.size w14 w18 from (by have hbq := hb18; have hp := Hk17.out; have hs := Hs17.out; exact (by repeat' (first | with_reducible exact Below.refl _ _ | with_reducible assumption | with_reducible refine below_drewN ?_ _ | with_reducible refine Below.drew ?_ | with_reducible refine Below.alloc ?_ ?_ _ | with_reducible refine Below.setCell ?_ ?_ _ | with_reducible refine Below.trans ?_ (Below.mono (by with_reducible assumption) ?_) | with_reducible refine below_only ?_ (by with_reducible assumption) ?_ ?_ | (simp; done) | (simp; omega) | omega)))); have Hs18 : Hid (w14.heap.size ≤ w18.heap.size) := Hk18.out.size; obtain ⟨p018, p118, _, _⟩ := (Hy14.out.below Hk18.out).facts; clear hb18)
              | (go_at_call 20; refine (repairP_any C D cn cc dn dc xs us _ (by omega) (HC14.out.below (by have hp := Hk18.out; have hs := Hs18.out; exact (by repeat' (first | with_reducible exact Below.refl _ _ | with_reducible assumption | with_reducible refine below_drewN ?_ _ | with_reducible refine Below.drew ?_ | with_reducible refine Below.alloc ?_ ?_ _ | with_reducible refine Below.setCell ?_ ?_ _ | with_reducible refine Below.trans ?_ (Below.mono (by with_reducible assumption) ?_) | with_reducible refine below_only ?_ (by with_reducible assumption) ?_ ?_ | (simp; done) | (simp; omega) | omega)))) (HD14.out.below (by have hp := Hk18.out; have hs := Hs18.out; exact (by repeat' (first | with_reducible exact Below.refl _ _ | with_reducible assumption | with_reducible refine below_drewN ?_ _ | with_reducible refine Below.drew ?_ | with_reducible refine Below.alloc ?_ ?_ _ | with_reducible refine Below.setCell ?_ ?_ _ | with_reducible refine Below.trans ?_ (Below.mono (by with_reducible assumption) ?_) | with_reducible refine below_only ?_ (by with_reducible assumption) ?_ ?_ | (simp; done) | (simp; omega) | omega))))).mono ?_; rintro e w19 ⟨A19, n19, c19, B19, m19, d19, rfl, hA19, hB19, hb19, _⟩; rw [Hfz.out] at hA19; have HA19 := Lib.hid hA19; have HB19 := Lib.hid hB19; clear hA19 hB19; have Hk19 : Hid (Below w14.heap.size w14 w19) := Lib.hid (show Below w14.heap.size w14 w19 from (by have hbq := hb19; have hp := Hk18.out; have hs := Hs18.out; exact (by repeat' (first | with_reducible exact Below.refl _ _ | with_reducible assumption | with_reducible refine below_drewN ?_ _ | with_reducible refine Below.drew ?_ | with_reducible refine Below.alloc ?_ ?_ _ | with_reducible refine Below.setCell ?_ ?_ _ | with_reducible refine Below.trans ?_ (Below.mono (by with_reducible assumption) ?_) | with_reducible refine below_only ?_ (by with_reducible assumption) ?_ ?_ | (simp; done) | (simp; omega) | omega)))); have Hs19 : Hid (w14.heap.size ≤ w19.heap.size) := Hk19.out.size; obtain ⟨p019, p119, _, _⟩ := (Hy14.out.below Hk19.out).facts; clear hb19)
              | (go_at_call 29; refine (repairR_any C D cn cc dn dc xs us _ (by omega) (HC14.out.below (by have hp := Hk19.out; have hs := Hs19.out; exact (by repeat' (first | with_reducible exact Below.refl _ _ | with_reducible assumption | with_reducible refine below_drewN ?_ _ | with_reducible refine Below.drew ?_ | with_reducible refine Below.alloc ?_ ?_ _ | with_reducible refine Below.setCell ?_ ?_ _ | with_reducible refine Below.trans ?_ (Below.mono (by with_reducible assumption) ?_) | with_reducible refine below_only ?_ (by with_reducible assumption) ?_ ?_ | (simp; done) | (simp; omega) | omega)))) (HD14.out.below (by have hp := Hk19.out; have hs := Hs19.out; exact (by repeat' (first | with_reducible exact Below.refl _ _ | with_reducible assumption | with_reducible refine below_drewN ?_ _ | with_reducible refine Below.drew ?_ | with_reducible refine Below.alloc ?_ ?_ _ | with_reducible refine Below.setCell ?_ ?_ _ | with_reducible refine Below.trans ?_ (Below.mono (by with_reducible assumption) ?_) | with_reducible refine below_only ?_ (by with_reducible assumption) ?_ ?_ | (simp; done) | (simp; omega) | omega))))).mono ?_; rintro e w20 ⟨A20, n20, c20, B20, m20, d20, rfl, hA20, hB20, hb20, _⟩; rw [Hfz.out] at hA20; have HA20 := Lib.hid hA20; have HB20 := Lib.hid hB20; have HA19b : Hid (Sl8 w20 A19 n19 c19 fz) := Lib.hid (show Sl8 w20 A19 n19 c19 fz from HA19.out.below (by have hbq := hb20; exact (by repeat' (first | with_reducible exact Below.refl _ _ | with_reducible assumption | with_reducible refine below_drewN ?_ _ | with_reducible refine Below.drew ?_ | with_reducible refine Below.alloc ?_ ?_ _ | with_reducible refine Below.setCell ?_ ?_ _ | with_reducible refine Below.trans ?_ (Below.mono (by with_reducible assumption) ?_) | with_reducible refine below_only ?_ (by with_reducible assumption) ?_ ?_ | (simp; done) | (simp; omega) | omega)))); have HB19b : Hid (Sl8 w20 B19 m19 d19 []) := Lib.hid (show Sl8 w20 B19 m19 d19 [] from HB19.out.below (by have hbq := hb20; exact (by repeat' (first | with_reducible exact Below.refl _ _ | with_reducible assumption | with_reducible refine below_drewN ?_ _ | with_reducible refine Below.drew ?_ | with_reducible refine Below.alloc ?_ ?_ _ | with_reducible refine Below.setCell ?_ ?_ _ | with_reducible refine Below.trans ?_ (Below.mono (by with_reducible assumption) ?_) | with_reducible refine below_only ?_ (by with_reducible assumption) ?_ ?_ | (simp; done) | (simp; omega) | omega)))); clear hA20 hB20; have Hk20 : Hid (Below w14.heap.size w14 w20) := Lib.hid (show Below w14.heap.size w14 w20 from (by have hbq := hb20; have hp := Hk19.out; have hs := Hs19.out; exact (by repeat' (first | with_reducible exact Below.refl _ _ | with_reducible assumption | with_reducible refine below_drewN ?_ _ | with_reducible refine Below.drew ?_ | with_reducible refine Below.alloc ?_ ?_ _ | with_reducible refine Below.setCell ?_ ?_ _ | with_reducible refine Below.trans ?_ (Below.mono (by with_reducible assumption) ?_) | with_reducible refine below_only ?_ (by with_reducible assumption) ?_ ?_ | (simp; done) | (simp; omega) | omega)))); have Hs20 : Hid (w14.heap.size ≤ w20.heap.size) := Hk20.out.size; obtain ⟨p020, p120, _, _⟩ := (Hy14.out.below Hk20.out).facts; clear hb20)
              | (go_at_call_of 21 A20; refine (same_any A19 B19 A20 B20 n19 c19 m19 d19 n20 c20 m20 d20 fz [] fz [] _ (HA19b.out.below (by repeat' (first | with_reducible exact Below.refl _ _ | with_reducible refine below_drewN ?_ _ | with_reducible refine Below.drew ?_ | with_reducible refine Below.alloc ?_ ?_ _ | with_reducible refine Below.setCell ?_ ?_ _ | with_reducible refine Below.trans ?_ (Below.mono (by with_reducible assumption) ?_) | (simp; done) | (simp; omega) | omega))) (HB19b.out.below (by repeat' (first | with_reducible exact Below.refl _ _ | with_reducible refine below_drewN ?_ _ | with_reducible refine Below.drew ?_ | with_reducible refine Below.alloc ?_ ?_ _ | with_reducible refine Below.setCell ?_ ?_ _ | with_reducible refine Below.trans ?_ (Below.mono (by with_reducible assumption) ?_) | (simp; done) | (simp; omega) | omega))) (HA20.out.below (by repeat' (first | with_reducible exact Below.refl _ _ | with_reducible refine below_drewN ?_ _ | with_reducible refine Below.drew ?_ | with_reducible refine Below.alloc ?_ ?_ _ | with_reducible refine Below.setCell ?_ ?_ _ | with_reducible refine Below.trans ?_ (Below.mono (by with_reducible assumption) ?_) | (simp; done) | (simp; omega) | omega))) (HB20.out.below (by repeat' (first | with_reducible exact Below.refl _ _ | with_reducible refine below_drewN ?_ _ | with_reducible refine Below.drew ?_ | with_reducible refine Below.alloc ?_ ?_ _ | with_reducible refine Below.setCell ?_ ?_ _ | with_reducible refine Below.trans ?_ (Below.mono (by with_reducible assumption) ?_) | (simp; done) | (simp; omega) | omega)))).mono ?_; rintro e w21 ⟨rfl, hb21⟩; rw [decide_eq_true rfl, decide_eq_true rfl, Bool.and_self]; have Hk21 : Hid (Below w14.heap.size w14 w21) := Lib.hid (show Below w14.heap.size w14 w21 from (by have hbq := hb21; have hp := Hk20.out; have hs := Hs20.out; exact (by repeat' (first | with_reducible exact Below.refl _ _ | with_reducible assumption | with_reducible refine below_drewN ?_ _ | with_reducible refine Below.drew ?_ | with_reducible refine Below.alloc ?_ ?_ _ | with_reducible refine Below.setCell ?_ ?_ _ | with_reducible refine Below.trans ?_ (Below.mono (by with_reducible assumption) ?_) | with_reducible refine below_only ?_ (by with_reducible assumption) ?_ ?_ | (simp; done) | (simp; omega) | omega)))); have Hs21 : Hid (w14.heap.size ≤ w21.heap.size) := Hk21.out.size; obtain ⟨p021, p121, _, _⟩ := (Hy14.out.below Hk21.out).facts; clear hb21)
              | fail)
          all_goals
            go_wp2
            go_meet
            case rel => exact ⟨rfl, by have hp := Hk21.out; have hs := Hs21.out; exact (by repeat' (first | with_reducible exact Below.refl _ _ | with_reducible assumption | with_reducible refine below_drewN ?_ _ | with_reducible refine Below.drew ?_ | with_reducible refine Below.alloc ?_ ?_ _ | with_reducible refine Below.setCell ?_ ?_ _ | with_reducible refine Below.trans ?_ (Below.mono (by with_reducible assumption) ?_) | with_reducible refine below_only ?_ (by with_reducible assumption) ?_ ?_ | (simp; done) | (simp; omega) | omega))⟩
        case rest =>
          obtain ⟨w15, rfl⟩ : ∃ w15 : World, w15 = wc := ⟨_, rfl⟩
          obtain ⟨rfl, hb15⟩ := hcut
          have hs15 := hb15.size
          have Hy15 := Lib.hid (Hy14.out.below hb15)
          have HC15 := Lib.hid (HC14.out.below hb15)
          have HD15 := Lib.hid (HD14.out.below hb15)
          have Hb15 := Lib.hid (show Below wb.heap.size wb w15 from Hb14.out.trans (hb15.mono (by have := Hb14.out.size; omega)))
          have hlt15 := Hy15.out.lt
          have hsb15 := Hb15.out.size
          clear y0 y1 HG1 HG2 hb15 HC14 HD14 Hy14 Hb14 Hz Hfz
          have HMk := Lib.hid (fun W => mod_any kb 60 W hkb (by omega))
          have hmk := modV_bd kb 60 (by omega)
          go_upto_region 18 with (first | (go_at_call 27; refine (HMk.out _).mono ?_; rintro e w' ⟨rfl, rfl⟩) | fail)
          obtain ⟨wk, hwk⟩ : ∃ wk : World, wk = w15.alloc (.cells #[.int .i64 kb, .int .i64 (modV kb 60)] 3) := ⟨_, rfl⟩
          rw [← hwk]
          have hks : w15.heap.size < wk.heap.size := by rw [hwk]; simp
          have Hkey : Hid (∀ j, j < 2 → ∃ kk : Int, (-9223372036854775808 ≤ kk ∧ kk ≤ 9223372036854775807) ∧ wk.cell? ⟨w15.heap.size, j, none⟩ = some (.int .i64 kk)) := Lib.hid (by
            intro j hj
            have hh : wk.heap[w15.heap.size]? = some (.cells #[.int .i64 kb, .int .i64 (modV kb 60)] 3 (0, 0)) := by rw [hwk]; exact heap_alloc_new _ _
            rcases (show j = 0 ∨ j = 1 by omega) with rfl | rfl
            · exact ⟨kb, hkb, cell_of_row wk _ 0 _ _ _ hh⟩
            · exact ⟨modV kb 60, by omega, cell_of_row wk _ 1 _ _ _ hh⟩)
          have Hk15 : Hid (Below w15.heap.size w15 wk) := Lib.hid (by rw [hwk]; exact (by repeat' (first | with_reducible exact Below.refl _ _ | with_reducible refine below_drewN ?_ _ | with_reducible refine Below.drew ?_ | with_reducible refine Below.alloc ?_ ?_ _ | with_reducible refine Below.setCell ?_ ?_ _ | with_reducible refine Below.trans ?_ (Below.mono (by with_reducible assumption) ?_) | (simp; done) | (simp; omega) | omega)))
          clear hwk
          go_loopw [131] (fun k wr => ∃ j : Nat, j ≤ 2 ∧ k = .int .i64 (j : Int) ∧ Below wk.heap.size wk wr) (fun k _ => 2 - (intOf k).toNat)
          case atStart => exact ⟨0, by omega, rfl, Below.refl _ _⟩
          case round =>
            obtain ⟨j, hj2, rfl, hbr⟩ := hrel
            have hsr := hbr.size
            have hbr' : Below w15.heap.size w15 wr := Hk15.out.trans (hbr.mono (by omega))
            have Hyr := Lib.hid (Hy15.out.below hbr')
            have HCr := Lib.hid (HC15.out.below hbr')
            have HDr := Lib.hid (HD15.out.below hbr')
            have Hbr := Lib.hid hbr
            have Hbr' := Lib.hid hbr'
            have hltr2 := Hyr.out.lt
            obtain ⟨y0, y1, _, _⟩ := Hyr.out.facts
            by_cases hj : j < 2
            · obtain ⟨kk, hkk, hkc⟩ := Hkey.out j hj
              have kc := (hbr.cell (p := ⟨w15.heap.size, j, none⟩) hks).trans hkc
              have hj2' : (j : Int) < 2 := by omega
              obtain ⟨cz, hcz⟩ : ∃ cz, xs ++ us.take (keepN kk dn) = cz := ⟨_, rfl⟩
              have Hcz := Lib.hid hcz
              clear hbr hbr' hkc hcz
              go_upto_region 20 with fail
              go_region_held3 (fun w' => w'.cell? ⟨wo.heap.size, 0, none⟩ = some (.slice C cn cc) ∧ w'.cell? ⟨wo.heap.size, 1, none⟩ = some (.slice D dn dc))
                (first | go_keep | ((repeat' apply And.intro) <;> go_keep))
                (first
                  | (go_at_call 16; refine (crashP_any C D cn cc dn dc xs us kk _ (by omega) hkk (HCr.out.below (by repeat' (first | with_reducible exact Below.refl _ _ | with_reducible refine below_drewN ?_ _ | with_reducible refine Below.drew ?_ | with_reducible refine Below.alloc ?_ ?_ _ | with_reducible refine Below.setCell ?_ ?_ _ | with_reducible refine Below.trans ?_ (Below.mono (by with_reducible assumption) ?_) | (simp; done) | (simp; omega) | omega))) (HDr.out.below (by repeat' (first | with_reducible exact Below.refl _ _ | with_reducible refine below_drewN ?_ _ | with_reducible refine Below.drew ?_ | with_reducible refine Below.alloc ?_ ?_ _ | with_reducible refine Below.setCell ?_ ?_ _ | with_reducible refine Below.trans ?_ (Below.mono (by with_reducible assumption) ?_) | (simp; done) | (simp; omega) | omega)))).mono ?_; rintro e w22 ⟨A22, n22, c22, B22, m22, d22, rfl, hA22, hB22, hb22, _⟩; rw [Hcz.out] at hA22; have HA22 := Lib.hid hA22; have HB22 := Lib.hid hB22; clear hA22 hB22; have Hk22 : Hid (Below wr.heap.size wr w22) := Lib.hid (show Below wr.heap.size wr w22 from (by have hbq := hb22;  exact (by repeat' (first | with_reducible exact Below.refl _ _ | with_reducible assumption | with_reducible refine below_drewN ?_ _ | with_reducible refine Below.drew ?_ | with_reducible refine Below.alloc ?_ ?_ _ | with_reducible refine Below.setCell ?_ ?_ _ | with_reducible refine Below.trans ?_ (Below.mono (by with_reducible assumption) ?_) | with_reducible refine below_only ?_ (by with_reducible assumption) ?_ ?_ | (simp; done) | (simp; omega) | omega)))); have Hs22 : Hid (wr.heap.size ≤ w22.heap.size) := Hk22.out.size; obtain ⟨p022, p122, _, _⟩ := (Hyr.out.below Hk22.out).facts; clear hb22)
                  | (go_at_call 30; refine (crashR_any C D cn cc dn dc xs us kk _ (by omega) hkk (HCr.out.below (by have hp := Hk22.out; have hs := Hs22.out; exact (by repeat' (first | with_reducible exact Below.refl _ _ | with_reducible assumption | with_reducible refine below_drewN ?_ _ | with_reducible refine Below.drew ?_ | with_reducible refine Below.alloc ?_ ?_ _ | with_reducible refine Below.setCell ?_ ?_ _ | with_reducible refine Below.trans ?_ (Below.mono (by with_reducible assumption) ?_) | with_reducible refine below_only ?_ (by with_reducible assumption) ?_ ?_ | (simp; done) | (simp; omega) | omega)))) (HDr.out.below (by have hp := Hk22.out; have hs := Hs22.out; exact (by repeat' (first | with_reducible exact Below.refl _ _ | with_reducible assumption | with_reducible refine below_drewN ?_ _ | with_reducible refine Below.drew ?_ | with_reducible refine Below.alloc ?_ ?_ _ | with_reducible refine Below.setCell ?_ ?_ _ | with_reducible refine Below.trans ?_ (Below.mono (by with_reducible assumption) ?_) | with_reducible refine below_only ?_ (by with_reducible assumption) ?_ ?_ | (simp; done) | (simp; omega) | omega))))).mono ?_; rintro e w23 ⟨A23, n23, c23, B23, m23, d23, rfl, hA23, hB23, hb23, _⟩; rw [Hcz.out] at hA23; have HA23 := Lib.hid hA23; have HB23 := Lib.hid hB23; have HA22b : Hid (Sl8 w23 A22 n22 c22 cz) := Lib.hid (show Sl8 w23 A22 n22 c22 cz from HA22.out.below (by have hbq := hb23; exact (by repeat' (first | with_reducible exact Below.refl _ _ | with_reducible assumption | with_reducible refine below_drewN ?_ _ | with_reducible refine Below.drew ?_ | with_reducible refine Below.alloc ?_ ?_ _ | with_reducible refine Below.setCell ?_ ?_ _ | with_reducible refine Below.trans ?_ (Below.mono (by with_reducible assumption) ?_) | with_reducible refine below_only ?_ (by with_reducible assumption) ?_ ?_ | (simp; done) | (simp; omega) | omega)))); have HB22b : Hid (Sl8 w23 B22 m22 d22 []) := Lib.hid (show Sl8 w23 B22 m22 d22 [] from HB22.out.below (by have hbq := hb23; exact (by repeat' (first | with_reducible exact Below.refl _ _ | with_reducible assumption | with_reducible refine below_drewN ?_ _ | with_reducible refine Below.drew ?_ | with_reducible refine Below.alloc ?_ ?_ _ | with_reducible refine Below.setCell ?_ ?_ _ | with_reducible refine Below.trans ?_ (Below.mono (by with_reducible assumption) ?_) | with_reducible refine below_only ?_ (by with_reducible assumption) ?_ ?_ | (simp; done) | (simp; omega) | omega)))); clear hA23 hB23; have Hk23 : Hid (Below wr.heap.size wr w23) := Lib.hid (show Below wr.heap.size wr w23 from (by have hbq := hb23; have hp := Hk22.out; have hs := Hs22.out; exact (by repeat' (first | with_reducible exact Below.refl _ _ | with_reducible assumption | with_reducible refine below_drewN ?_ _ | with_reducible refine Below.drew ?_ | with_reducible refine Below.alloc ?_ ?_ _ | with_reducible refine Below.setCell ?_ ?_ _ | with_reducible refine Below.trans ?_ (Below.mono (by with_reducible assumption) ?_) | with_reducible refine below_only ?_ (by with_reducible assumption) ?_ ?_ | (simp; done) | (simp; omega) | omega)))); have Hs23 : Hid (wr.heap.size ≤ w23.heap.size) := Hk23.out.size; obtain ⟨p023, p123, _, _⟩ := (Hyr.out.below Hk23.out).facts; clear hb23)
                  | (go_at_call_of 21 A23; refine (same_any A22 B22 A23 B23 n22 c22 m22 d22 n23 c23 m23 d23 cz [] cz [] _ (HA22b.out.below (by repeat' (first | with_reducible exact Below.refl _ _ | with_reducible refine below_drewN ?_ _ | with_reducible refine Below.drew ?_ | with_reducible refine Below.alloc ?_ ?_ _ | with_reducible refine Below.setCell ?_ ?_ _ | with_reducible refine Below.trans ?_ (Below.mono (by with_reducible assumption) ?_) | (simp; done) | (simp; omega) | omega))) (HB22b.out.below (by repeat' (first | with_reducible exact Below.refl _ _ | with_reducible refine below_drewN ?_ _ | with_reducible refine Below.drew ?_ | with_reducible refine Below.alloc ?_ ?_ _ | with_reducible refine Below.setCell ?_ ?_ _ | with_reducible refine Below.trans ?_ (Below.mono (by with_reducible assumption) ?_) | (simp; done) | (simp; omega) | omega))) (HA23.out.below (by repeat' (first | with_reducible exact Below.refl _ _ | with_reducible refine below_drewN ?_ _ | with_reducible refine Below.drew ?_ | with_reducible refine Below.alloc ?_ ?_ _ | with_reducible refine Below.setCell ?_ ?_ _ | with_reducible refine Below.trans ?_ (Below.mono (by with_reducible assumption) ?_) | (simp; done) | (simp; omega) | omega))) (HB23.out.below (by repeat' (first | with_reducible exact Below.refl _ _ | with_reducible refine below_drewN ?_ _ | with_reducible refine Below.drew ?_ | with_reducible refine Below.alloc ?_ ?_ _ | with_reducible refine Below.setCell ?_ ?_ _ | with_reducible refine Below.trans ?_ (Below.mono (by with_reducible assumption) ?_) | (simp; done) | (simp; omega) | omega)))).mono ?_; rintro e w24 ⟨rfl, hb24⟩; rw [decide_eq_true rfl, decide_eq_true rfl, Bool.and_self]; have Hk24 : Hid (Below wr.heap.size wr w24) := Lib.hid (show Below wr.heap.size wr w24 from (by have hbq := hb24; have hp := Hk23.out; have hs := Hs23.out; exact (by repeat' (first | with_reducible exact Below.refl _ _ | with_reducible assumption | with_reducible refine below_drewN ?_ _ | with_reducible refine Below.drew ?_ | with_reducible refine Below.alloc ?_ ?_ _ | with_reducible refine Below.setCell ?_ ?_ _ | with_reducible refine Below.trans ?_ (Below.mono (by with_reducible assumption) ?_) | with_reducible refine below_only ?_ (by with_reducible assumption) ?_ ?_ | (simp; done) | (simp; omega) | omega)))); have Hs24 : Hid (wr.heap.size ≤ w24.heap.size) := Hk24.out.size; obtain ⟨p024, p124, _, _⟩ := (Hyr.out.below Hk24.out).facts; clear hb24)
                  | fail)
              all_goals
                go_wp2
                go_roundw
                case rel =>
                  have h0 := Hbr.out
                  have hp := Hk24.out
                  have hs := Hs24.out
                  exact ⟨j + 1, by omega, by go_num, (by repeat' (first | with_reducible exact Below.refl _ _ | with_reducible assumption | with_reducible refine below_drewN ?_ _ | with_reducible refine Below.drew ?_ | with_reducible refine Below.alloc ?_ ?_ _ | with_reducible refine Below.setCell ?_ ?_ _ | with_reducible refine Below.trans ?_ (Below.mono (by with_reducible assumption) ?_) | with_reducible refine below_only ?_ (by with_reducible assumption) ?_ ?_ | (simp; done) | (simp; omega) | omega))⟩
                case measure => simp [intOf]; omega
            · obtain rfl : j = 2 := by omega
              rw [show ((2 : Nat) : Int) = 2 from rfl]
              obtain ⟨wq, rfl⟩ : ∃ wq : World, wq = wr := ⟨_, rfl⟩
              have Hbq : Hid (Below wb.heap.size wb wq) := Lib.hid (Hb15.out.trans (Hbr'.out.mono (by omega)))
              have hsq := Hbq.out.size
              have hoq : wq.heap[w.heap.size + 1]? = some (.cells #[.int .i64 o.n, .int .i64 o.f, .int .i64 o.a, .int .i64 o.d] 32 (0, 0)) := (Hbq.out.block _ (by omega)).trans ((Hbb.out.block _ hs5).trans Ho5.out)
              have hgq : wq.heap[w5.heap.size]? = some (.cells #[.int .i64 o2.n, .int .i64 o2.f, .int .i64 o2.a, .int .i64 o2.d] 32 (0, 0)) := (Hbq.out.block _ (by omega)).trans HG.out
              have a0 : wq.cell? ⟨w.heap.size + 1, 0, none⟩ = some (.int .i64 o.n) := cell_of_row wq _ 0 _ _ _ hoq
              have a1 : wq.cell? ⟨w.heap.size + 1, 1, none⟩ = some (.int .i64 o.f) := cell_of_row wq _ 1 _ _ _ hoq
              have a2 : wq.cell? ⟨w.heap.size + 1, 2, none⟩ = some (.int .i64 o.a) := cell_of_row wq _ 2 _ _ _ hoq
              have a3 : wq.cell? ⟨w.heap.size + 1, 3, none⟩ = some (.int .i64 o.d) := cell_of_row wq _ 3 _ _ _ hoq
              have e0 : wq.cell? ⟨w5.heap.size, 0, none⟩ = some (.int .i64 o2.n) := cell_of_row wq _ 0 _ _ _ hgq
              have e1 : wq.cell? ⟨w5.heap.size, 1, none⟩ = some (.int .i64 o2.f) := cell_of_row wq _ 1 _ _ _ hgq
              have e2 : wq.cell? ⟨w5.heap.size, 2, none⟩ = some (.int .i64 o2.a) := cell_of_row wq _ 2 _ _ _ hgq
              have e3 : wq.cell? ⟨w5.heap.size, 3, none⟩ = some (.int .i64 o2.d) := cell_of_row wq _ 3 _ _ _ hgq
              clear hbr hbr' hoq hgq y0 y1
              go_upto_region 24 with fail
              obtain ⟨wz, hwz⟩ : ∃ wz : World, wz = wq.alloc (.cells #[.int .i64 o.n, .int .i64 o.f, .int .i64 o.a, .int .i64 o.d, .int .i64 o2.n, .int .i64 o2.f, .int .i64 o2.a, .int .i64 o2.d] 32) := ⟨_, rfl⟩
              rw [← hwz]
              have hzs : wq.heap.size < wz.heap.size := by rw [hwz]; simp
              have Hord : Hid (∀ j, j < 2 → ∃ oo : Ord4, wz.cell? ⟨wq.heap.size, j * 4, none⟩ = some (.int .i64 oo.n) ∧ wz.cell? ⟨wq.heap.size, j * 4 + 1, none⟩ = some (.int .i64 oo.f) ∧ wz.cell? ⟨wq.heap.size, j * 4 + 2, none⟩ = some (.int .i64 oo.a) ∧ wz.cell? ⟨wq.heap.size, j * 4 + 3, none⟩ = some (.int .i64 oo.d)) := Lib.hid (by
                intro j hj
                have hh : wz.heap[wq.heap.size]? = some (.cells #[.int .i64 o.n, .int .i64 o.f, .int .i64 o.a, .int .i64 o.d, .int .i64 o2.n, .int .i64 o2.f, .int .i64 o2.a, .int .i64 o2.d] 32 (0, 0)) := by rw [hwz]; exact heap_alloc_new _ _
                rcases (show j = 0 ∨ j = 1 by omega) with rfl | rfl
                · exact ⟨o, cell_of_row wz _ 0 _ _ _ hh, cell_of_row wz _ 1 _ _ _ hh, cell_of_row wz _ 2 _ _ _ hh, cell_of_row wz _ 3 _ _ _ hh⟩
                · exact ⟨o2, cell_of_row wz _ 4 _ _ _ hh, cell_of_row wz _ 5 _ _ _ hh, cell_of_row wz _ 6 _ _ _ hh, cell_of_row wz _ 7 _ _ _ hh⟩)
              have Hqz : Hid (Below wq.heap.size wq wz) := Lib.hid (by rw [hwz]; exact (by repeat' (first | with_reducible exact Below.refl _ _ | with_reducible refine below_drewN ?_ _ | with_reducible refine Below.drew ?_ | with_reducible refine Below.alloc ?_ ?_ _ | with_reducible refine Below.setCell ?_ ?_ _ | with_reducible refine Below.trans ?_ (Below.mono (by with_reducible assumption) ?_) | (simp; done) | (simp; omega) | omega)))
              clear hwz a0 a1 a2 a3 e0 e1 e2 e3
              go_loopw [148] (fun k wr => ∃ j : Nat, j ≤ 2 ∧ k = .int .i64 (j : Int) ∧ Below wz.heap.size wz wr) (fun k _ => 2 - (intOf k).toNat)
              case atStart => exact ⟨0, by omega, rfl, Below.refl _ _⟩
              case round =>
                obtain ⟨j, hj2, rfl, hbv⟩ := hrel
                have hsv' := hbv.size
                have hbqv : Below wq.heap.size wq wr := Hqz.out.trans (hbv.mono (by omega))
                have Hyv := Lib.hid (Hyr.out.below hbqv)
                have HCv := Lib.hid (HCr.out.below hbqv)
                have HDv := Lib.hid (HDr.out.below hbqv)
                have Hbv2 := Lib.hid hbv
                have Hbqv := Lib.hid hbqv
                have hltv := Hyv.out.lt
                obtain ⟨y0, y1, _, _⟩ := Hyv.out.facts
                by_cases hj : j < 2
                · obtain ⟨oo, q0, q1, q2, q3⟩ := Hord.out j hj
                  have q0 := (hbv.cell (p := ⟨wq.heap.size, j * 4, none⟩) hzs).trans q0
                  have q1 := (hbv.cell (p := ⟨wq.heap.size, j * 4 + 1, none⟩) hzs).trans q1
                  have q2 := (hbv.cell (p := ⟨wq.heap.size, j * 4 + 2, none⟩) hzs).trans q2
                  have q3 := (hbv.cell (p := ⟨wq.heap.size, j * 4 + 3, none⟩) hzs).trans q3
                  have hj2' : (j : Int) < 2 := by omega
                  clear hbv hbqv
                  go_wp2_with fail
                  refine (writeP_any C D cn cc dn dc xs us oo _ (by omega) (HCv.out.alloc _) (HDv.out.alloc _)).mono ?_
                  rintro e wp ⟨A', n', c', B', m', d', rfl, hA', hB', hbp, _⟩
                  have hbp2 : Below wr.heap.size wr wp := ((Below.refl _ _).alloc (Nat.le_refl _) _).trans (hbp.mono (by simp))
                  have hzp : wp.heap[wr.heap.size]? = some (.cells #[.int .i64 oo.n, .int .i64 oo.f, .int .i64 oo.a, .int .i64 oo.d] 32 (0, 0)) := (hbp.block _ (by simp)).trans (heap_alloc_new wr _)
                  have hsp : wr.heap.size < wp.heap.size := by have := hbp.size; simp at this; omega
                  have Hyp := Lib.hid (Hyv.out.below hbp2)
                  have HCp := Lib.hid (HCv.out.below hbp2)
                  have HDp := Lib.hid (HDv.out.below hbp2)
                  have HA' := Lib.hid hA'
                  have HB' := Lib.hid hB'
                  have Hbp2 := Lib.hid hbp2
                  have hltp := Hyp.out.lt
                  obtain ⟨y0p, y1p, _, _⟩ := Hyp.out.facts
                  have z0 : wp.cell? ⟨wr.heap.size, 0, none⟩ = some (.int .i64 oo.n) := cell_of_row wp _ 0 _ _ _ hzp
                  have z1 : wp.cell? ⟨wr.heap.size, 1, none⟩ = some (.int .i64 oo.f) := cell_of_row wp _ 1 _ _ _ hzp
                  have z2 : wp.cell? ⟨wr.heap.size, 2, none⟩ = some (.int .i64 oo.a) := cell_of_row wp _ 2 _ _ _ hzp
                  have z3 : wp.cell? ⟨wr.heap.size, 3, none⟩ = some (.int .i64 oo.d) := cell_of_row wp _ 3 _ _ _ hzp
                  clear hA' hB' hbp hbp2 hzp q0 q1 q2 q3 y0 y1
                  go_wp2_with fail
                  refine (writeR_any C D cn cc dn dc xs us oo _ (by omega) (HCp.out.alloc _) (HDp.out.alloc _)).mono ?_
                  rintro e wt ⟨A2, n2, c2, B2, m2, d2, rfl, hA2, hB2, hbt, _⟩
                  generalize (writeB xs us oo).2 = er at *
                  obtain ⟨wu, hwu⟩ : ∃ wu, (writeB xs us oo).1 = wu := ⟨_, rfl⟩
                  have HB'2 : Hid (Sl8 wp B' m' d' wu) := Lib.hid (by have := HB'.out; rw [hwu] at this; exact this)
                  rw [hwu] at hB2
                  have hbt2 : Below wp.heap.size wp wt := ((Below.refl _ _).alloc (Nat.le_refl _) _).trans (hbt.mono (by simp))
                  have hpt := (TB.new wp A' n' c' B' m' d').below hbt
                  have hst := hpt.lt
                  obtain ⟨p0, p1, _, _⟩ := hpt.facts
                  have HA2 := Lib.hid hA2
                  have HB2 := Lib.hid hB2
                  have Hbt2 := Lib.hid hbt2
                  clear hA2 hB2 hbt hbt2 hpt HB' z0 z1 z2 z3 y0p y1p hwu
                  go_wp2_with fail
                  refine (same_any A' B' A2 B2 n' c' m' d' n2 c2 m2 d2 xs wu xs wu _ ((HA'.out.below Hbt2.out).alloc _) ((HB'2.out.below Hbt2.out).alloc _) (HA2.out.alloc _) (HB2.out.alloc _)).mono ?_
                  rintro e wx ⟨rfl, hbx⟩
                  rw [decide_eq_true rfl, decide_eq_true rfl, Bool.and_self]
                  go_wp2
                  go_roundw
                  case rel =>
                    have h0 := Hbv2.out
                    have h1 := Hbp2.out
                    have h2 := Hbt2.out
                    have s1 := h1.size
                    have s2 := h2.size
                    have h3 : Below wt.heap.size wt wx := ((Below.refl _ _).alloc (Nat.le_refl _) _).trans (hbx.mono (by simp))
                    exact ⟨j + 1, by omega, by go_num, h0.trans ((h1.trans ((h2.trans (h3.mono (by omega))).mono (by omega))).mono (by omega))⟩
                  case measure => simp [intOf]; omega
                · obtain rfl : j = 2 := by omega
                  have hlc := HCv.out.len
                  have htp := HCv.out.top
                  have hcp := HCv.out.cap
                  clear hbv hbqv
                  go_upto_region 31 with fail
                  go_quiet ((first
                    | (go_at_call 25; exact quiet_left (sumP_any C cn cc xs _ hlc (Nat.le_trans hcp htp) HCv.out.byt HCv.out.lies))
                    | (go_at_call 32; exact quiet_left (sumR_any C cn cc xs _ hlc (Nat.le_trans hcp htp) HCv.out.byt HCv.out.lies))))
                  go_wp2
                  go_roundw
                  case rel =>
                    have h0 := Hbo.out
                    have h1 : Below wb.heap.size wb wq := Hbq.out
                    have h2 : Below wq.heap.size wq wr := Hbqv.out
                    exact ⟨i + 1, by omega, by go_num, (by repeat' (first | with_reducible exact Below.refl _ _ | with_reducible assumption | with_reducible refine below_drewN ?_ _ | with_reducible refine Below.drew ?_ | with_reducible refine Below.alloc ?_ ?_ _ | with_reducible refine Below.setCell ?_ ?_ _ | with_reducible refine Below.trans ?_ (Below.mono (by with_reducible assumption) ?_) | with_reducible refine below_only ?_ (by with_reducible assumption) ?_ ?_ | (simp; done) | (simp; omega) | omega))⟩
                  case measure => simp [intOf]; omega
      · obtain rfl : i = 3 := by omega
        rw [show ((3 : Nat) : Int) = 3 from rfl]
        have Hw5o : Hid (Below w5.heap.size w5 wo) := Lib.hid (Hbb.out.trans (Hbo.out.mono (by omega)))
        have hoq : wo.heap[w.heap.size + 1]? = some (.cells #[.int .i64 o.n, .int .i64 o.f, .int .i64 o.a, .int .i64 o.d] 32 (0, 0)) := (Hw5o.out.block _ hs5).trans Ho5.out
        have hgq : wo.heap[w5.heap.size]? = some (.cells #[.int .i64 o2.n, .int .i64 o2.f, .int .i64 o2.a, .int .i64 o2.d] 32 (0, 0)) := (hbo.block _ (by omega)).trans HG.out
        have a0 : wo.cell? ⟨w.heap.size + 1, 0, none⟩ = some (.int .i64 o.n) := cell_of_row wo _ 0 _ _ _ hoq
        have a1 : wo.cell? ⟨w.heap.size + 1, 1, none⟩ = some (.int .i64 o.f) := cell_of_row wo _ 1 _ _ _ hoq
        have a2 : wo.cell? ⟨w.heap.size + 1, 2, none⟩ = some (.int .i64 o.a) := cell_of_row wo _ 2 _ _ _ hoq
        have a3 : wo.cell? ⟨w.heap.size + 1, 3, none⟩ = some (.int .i64 o.d) := cell_of_row wo _ 3 _ _ _ hoq
        have e0 : wo.cell? ⟨w5.heap.size, 0, none⟩ = some (.int .i64 o2.n) := cell_of_row wo _ 0 _ _ _ hgq
        have e1 : wo.cell? ⟨w5.heap.size, 1, none⟩ = some (.int .i64 o2.f) := cell_of_row wo _ 1 _ _ _ hgq
        have e2 : wo.cell? ⟨w5.heap.size, 2, none⟩ = some (.int .i64 o2.a) := cell_of_row wo _ 2 _ _ _ hgq
        have e3 : wo.cell? ⟨w5.heap.size, 3, none⟩ = some (.int .i64 o2.d) := cell_of_row wo _ 3 _ _ _ hgq
        clear hbo hoq hgq
        go_upto_region 35 with fail
        obtain ⟨wz, hwz⟩ : ∃ wz : World, wz = wo.alloc (.cells #[.int .i64 o.n, .int .i64 o.f, .int .i64 o.a, .int .i64 o.d, .int .i64 o2.n, .int .i64 o2.f, .int .i64 o2.a, .int .i64 o2.d] 32) := ⟨_, rfl⟩
        rw [← hwz]
        have hzs : wo.heap.size < wz.heap.size := by rw [hwz]; simp
        have Hord : Hid (∀ j, j < 2 → ∃ oo : Ord4, wz.cell? ⟨wo.heap.size, j * 4, none⟩ = some (.int .i64 oo.n) ∧ wz.cell? ⟨wo.heap.size, j * 4 + 1, none⟩ = some (.int .i64 oo.f) ∧ wz.cell? ⟨wo.heap.size, j * 4 + 2, none⟩ = some (.int .i64 oo.a) ∧ wz.cell? ⟨wo.heap.size, j * 4 + 3, none⟩ = some (.int .i64 oo.d)) := Lib.hid (by
          intro j hj
          have hh : wz.heap[wo.heap.size]? = some (.cells #[.int .i64 o.n, .int .i64 o.f, .int .i64 o.a, .int .i64 o.d, .int .i64 o2.n, .int .i64 o2.f, .int .i64 o2.a, .int .i64 o2.d] 32 (0, 0)) := by rw [hwz]; exact heap_alloc_new _ _
          rcases (show j = 0 ∨ j = 1 by omega) with rfl | rfl
          · exact ⟨o, cell_of_row wz _ 0 _ _ _ hh, cell_of_row wz _ 1 _ _ _ hh, cell_of_row wz _ 2 _ _ _ hh, cell_of_row wz _ 3 _ _ _ hh⟩
          · exact ⟨o2, cell_of_row wz _ 4 _ _ _ hh, cell_of_row wz _ 5 _ _ _ hh, cell_of_row wz _ 6 _ _ _ hh, cell_of_row wz _ 7 _ _ _ hh⟩)
        have Hw5z : Hid (Below w5.heap.size w5 wz) := Lib.hid (by rw [hwz]; exact Hw5o.out.alloc Hw5o.out.size _)
        clear hwz a0 a1 a2 a3 e0 e1 e2 e3
        go_loopw [186] (fun k wr => ∃ j : Nat, j ≤ 2 ∧ k = .int .i64 (j : Int) ∧ Below wz.heap.size wz wr) (fun k _ => 2 - (intOf k).toNat)
        case atStart => exact ⟨0, by omega, rfl, Below.refl _ _⟩
        case round =>
          obtain ⟨j, hj2, rfl, hbv⟩ := hrel
          have hsv' := hbv.size
          have Hbv2 := Lib.hid hbv
          by_cases hj : j < 2
          · obtain ⟨oo, q0, q1, q2, q3⟩ := Hord.out j hj
            have q0 := (hbv.cell (p := ⟨wo.heap.size, j * 4, none⟩) hzs).trans q0
            have q1 := (hbv.cell (p := ⟨wo.heap.size, j * 4 + 1, none⟩) hzs).trans q1
            have q2 := (hbv.cell (p := ⟨wo.heap.size, j * 4 + 2, none⟩) hzs).trans q2
            have q3 := (hbv.cell (p := ⟨wo.heap.size, j * 4 + 3, none⟩) hzs).trans q3
            have hj2' : (j : Int) < 2 := by omega
            clear hbv
            obtain ⟨rb, hrb⟩ : ∃ rb, (if rightB oo then recB oo else []) = rb := ⟨_, rfl⟩
            obtain ⟨er, her⟩ : ∃ er : Int, (if rightB oo then 0 else 75) = er := ⟨_, rfl⟩
            have Hrb := Lib.hid hrb
            have Her := Lib.hid her
            have hrbb : Bytes rb := by rw [← hrb]; split; exact recB_bytes oo; exact fun _ h => by simp at h
            clear hrb her
            go_wp2_with fail
            refine (recordP_any oo _).mono ?_
            rintro e wp ⟨v1, rfl, hown1, hbp⟩
            rw [Hrb.out] at hown1
            rw [Her.out]
            have hbp2 : Below wr.heap.size wr wp := ((Below.refl _ _).alloc (Nat.le_refl _) _).trans (hbp.mono (by simp))
            have hzp : wp.heap[wr.heap.size]? = some (.cells #[.int .i64 oo.n, .int .i64 oo.f, .int .i64 oo.a, .int .i64 oo.d] 32 (0, 0)) := (hbp.block _ (by simp)).trans (heap_alloc_new wr _)
            have z0 : wp.cell? ⟨wr.heap.size, 0, none⟩ = some (.int .i64 oo.n) := cell_of_row wp _ 0 _ _ _ hzp
            have z1 : wp.cell? ⟨wr.heap.size, 1, none⟩ = some (.int .i64 oo.f) := cell_of_row wp _ 1 _ _ _ hzp
            have z2 : wp.cell? ⟨wr.heap.size, 2, none⟩ = some (.int .i64 oo.a) := cell_of_row wp _ 2 _ _ _ hzp
            have z3 : wp.cell? ⟨wr.heap.size, 3, none⟩ = some (.int .i64 oo.d) := cell_of_row wp _ 3 _ _ _ hzp
            have Hbp2 := Lib.hid hbp2
            have Hown1 := Lib.hid hown1
            clear hown1 hbp hbp2 hzp q0 q1 q2 q3
            go_wp2_with fail
            refine (recordR_any oo _).mono ?_
            rintro e wt ⟨v2, rfl, hown2, hbt⟩
            rw [Hrb.out] at hown2
            rw [Her.out]
            have hown1 := Hown1.out
            clear Hown1
            obtain ⟨X1, xc1, rfl, hX1⟩ := Sl8.of_own hown1 rfl hrbb
            obtain ⟨X2, xc2, rfl, hX2⟩ := Sl8.of_own hown2 rfl hrbb
            have k1 := conv8 (hX1.below hbt)
            have k2 := conv8 hX2
            have Hbt := Lib.hid hbt
            clear hown1 hown2 hX1 hX2 hbt z0 z1 z2 z3
            generalize strOfNums rb = sb at *
            go_wp2
            go_roundw
            case rel =>
              have h0 := Hbv2.out
              have h1 := Hbp2.out
              have h2 := Hbt.out
              have s1 := h1.size
              have s2 := h2.size
              exact ⟨j + 1, by omega, by go_num, (by repeat' (first | with_reducible exact Below.refl _ _ | with_reducible assumption | with_reducible refine below_drewN ?_ _ | with_reducible refine Below.drew ?_ | with_reducible refine Below.alloc ?_ ?_ _ | with_reducible refine Below.setCell ?_ ?_ _ | with_reducible refine Below.trans ?_ (Below.mono (by with_reducible assumption) ?_) | with_reducible refine below_only ?_ (by with_reducible assumption) ?_ ?_ | (simp; done) | (simp; omega) | omega))⟩
            case measure => simp [intOf]; omega
          · obtain rfl : j = 2 := by omega
            have Hw5r : Hid (Below w5.heap.size w5 wr) := Lib.hid (Hw5z.out.trans (hbv.mono Hw5z.out.size))
            have hs5r := Hw5r.out.size
            have HLr := Lib.hid (HL5.out.below Hw5r.out)
            have HMt := Lib.hid (fun W => mod_any at_ 61 W hat (by omega))
            clear hbv
            go_wp2_with (first
              | (go_at_call 27; refine (HMt.out _).mono ?_; rintro e w' ⟨rfl, rfl⟩)
              | (go_at_call 22; refine (totalP_any L ln lc l _ _ Hll.out (by omega) (HLr.out.below (by first | exact Below.refl _ _ | exact (by repeat' (first | with_reducible exact Below.refl _ _ | with_reducible assumption | with_reducible refine below_drewN ?_ _ | with_reducible refine Below.drew ?_ | with_reducible refine Below.alloc ?_ ?_ _ | with_reducible refine Below.setCell ?_ ?_ _ | with_reducible refine Below.trans ?_ (Below.mono (by with_reducible assumption) ?_) | with_reducible refine below_only ?_ (by with_reducible assumption) ?_ ?_ | (simp; done) | (simp; omega) | omega))))).mono ?_; rintro e wt ⟨rfl, hbt⟩; have hst := hbt.size)
              | (go_at_call 34; refine (totalR_any L ln lc l _ _ Hll.out (by omega) (HLr.out.below (by first | exact Below.refl _ _ | exact (by repeat' (first | with_reducible exact Below.refl _ _ | with_reducible assumption | with_reducible refine below_drewN ?_ _ | with_reducible refine Below.drew ?_ | with_reducible refine Below.alloc ?_ ?_ _ | with_reducible refine Below.setCell ?_ ?_ _ | with_reducible refine Below.trans ?_ (Below.mono (by with_reducible assumption) ?_) | with_reducible refine below_only ?_ (by with_reducible assumption) ?_ ?_ | (simp; done) | (simp; omega) | omega))))).mono ?_; rintro e w' ⟨rfl, rfl⟩)
              | (go_at_call 18; refine (awake_any _).mono ?_; rintro e wx ⟨rfl, hbx⟩)
              | fail)
            all_goals go_ret
            all_goals exact ⟨rfl, Hw5.out.trans ((Hw5r.out.trans ((show Below wr.heap.size wr _ from (by repeat' (first | with_reducible exact Below.refl _ _ | with_reducible assumption | with_reducible refine below_drewN ?_ _ | with_reducible refine Below.drew ?_ | with_reducible refine Below.alloc ?_ ?_ _ | with_reducible refine Below.setCell ?_ ?_ _ | with_reducible refine Below.trans ?_ (Below.mono (by with_reducible assumption) ?_) | with_reducible refine below_only ?_ (by with_reducible assumption) ?_ ?_ | (simp; done) | (simp; omega) | omega))).mono hs5r)).mono (by omega))⟩
end Go.Proofs.Ytbkfdpdcnjecbaa
