/- The walk of StrataChooses. -/
import Derived.Test.YtjmbdfoegnfpnaaKU
import Derived.Test.YtjmbdfoegnfpnaaK8
import Derived.Test.YtjmbdfoegnfpnaaKZ
import Derived.Test.YtjmbdfoegnfpnaaK7
import Derived.Test.YtjmbdfoegnfpnaaKX
import Derived.Test.YtjmbdfoegnfpnaaKY
namespace Go.Proofs.Ytjmbdfoegnfpnaa
open Go.RowKit
set_option linter.unusedVariables false
set_option linter.unusedSimpArgs false

/-- Plan number j of a row of plans. -/
def AtQ (W : World) (B j : Nat) : Prop := ∃ (p : PlV) (q : Pl), W.cell? ⟨B, j * 5, none⟩ = some (.slice p.a1 q.ws.length p.c1) ∧ W.cell? ⟨B, j * 5 + 1, none⟩ = some (.slice p.a2 q.ls.length p.c2) ∧ W.cell? ⟨B, j * 5 + 2, none⟩ = some (.slice p.a3 q.ss.length p.c3) ∧ W.cell? ⟨B, j * 5 + 3, none⟩ = some (.int .i64 q.le) ∧ W.cell? ⟨B, j * 5 + 4, none⟩ = some (.int .i64 q.ra) ∧ PlAt W p q
/-- List number j of a row of lists of units. -/
def AtV (W : World) (B j : Nat) : Prop := ∃ (A : Option Addr) (c : Nat) (L : List (Un × UV)), W.cell? ⟨B, j, none⟩ = some (.slice A L.length c) ∧ SlU W A L.length c L

set_option maxHeartbeats 20000000 in
set_option maxRecDepth 100000 in
theorem choosesLaw25 (A : Option Addr) (n c : Nat) (zs : List Int) (seed : Int) (LA : Option Addr) (lc : Nat) (L : List (Un × UV)) (by_ : Int) (w : World) (hn : zs.length = n) (hc : n ≤ c) (hm : c ≤ maxLen) (hw : ∀ z ∈ zs, (Lit.int .i64 z).wf = true) (hA : Lies w A n (zs.map (.int .i64))) (hL : SlU w LA L.length lc L) :
    Calls Try.prog 4 #[.slice A n c, .int .u64 seed, .slice LA L.length lc, .int .i64 by_] w fun e w' => e = .returned (.bool true) ∧ Below w.heap.size w w' := by
  have HN := Lib.hid (new_any A n c zs w hn hc hm hw hA)
  have HL := Lib.hid hL
  clear hn hc hm hw hA hL
  go_enter Try.func4, Try.ntmps4
  by_cases hq : 70 < L.length
  · have hq' : (70 : Int) < (L.length : Int) := by omega
    go_wp2_with fail
    refine (awake25_any _).mono ?_
    rintro e w1 ⟨rfl, hb1⟩
    go_wp2
    go_ret
    exact ⟨rfl, hb1⟩
  have hq' : ¬ (70 : Int) < (L.length : Int) := by omega
  go_wp2_with fail
  refine HN.out.mono ?_
  rintro e w1 ⟨g, rfl, hwg, ht1, hb1⟩
  have Ht1 := Lib.hid ht1
  have Hb1 := Lib.hid hb1
  have hg1 := ht1.lt
  have hs1 := hb1.size
  clear ht1 hb1 HN
  go_wp2_with fail
  refine (plan_any g _ w1 Ht1.out).mono ?_
  rintro e w2 ⟨p, q, r2, rfl, ho2, ht2, hg2, hck, hle⟩
  have Ho2 := Lib.hid ho2
  have Ht2 := Lib.hid ht2
  have Hg2 := Lib.hid hg2
  have Hck := Lib.hid hck
  have Hle2 := Lib.hid hle
  have hs2 := hg2.size
  clear ho2 ht2 hg2 hck hle Ht1
  go_upto_region 5 with fail
  obtain ⟨w3, hw3⟩ : ∃ w3 : World, w3 = w2.alloc (.cells #[.slice p.a1 q.ws.length p.c1, .slice p.a2 q.ls.length p.c2, .slice p.a3 q.ss.length p.c3, .int .i64 q.le, .int .i64 q.ra] 24) := ⟨_, rfl⟩
  rw [← hw3]
  have Hb23 : Hid (Below w2.heap.size w2 w3) := Lib.hid (by rw [hw3]; exact (by repeat' (first | with_reducible exact Below.refl _ _ | with_reducible refine below_drewN ?_ _ | with_reducible refine Below.drew ?_ | with_reducible refine Below.alloc ?_ ?_ _ | with_reducible refine Below.setCell ?_ ?_ _ | with_reducible refine Below.trans ?_ (Below.mono (by with_reducible assumption) ?_) | (simp; done) | (simp; omega) | omega)))
  have HP3 : Hid (w3.heap[w2.heap.size]? = some (.cells #[.slice p.a1 q.ws.length p.c1, .slice p.a2 q.ls.length p.c2, .slice p.a3 q.ss.length p.c3, .int .i64 q.le, .int .i64 q.ra] 24 (0, 0))) := Lib.hid (by rw [hw3]; exact heap_alloc_new w2 _)
  have hlt3 : w2.heap.size < w3.heap.size := by rw [hw3]; simp
  have Hg3 : Hid (w1.grownBy w3 (some g)) := Lib.hid (only_below Hg2.out Hb23.out hs2)
  have Ht3 := Lib.hid (Ht2.out.below Hb23.out (by omega))
  have Ho3 := Lib.hid (Ho2.out.below Hb23.out)
  clear hw3 Hg2 Ht2 Ho2
  have hwl : q.ws.length ≤ 1000 := by have := ((planB_iff q).1 (checkP_zero Hck.out)).1; omega
  have p0 := rowCell HP3.out (i := 0) rfl
  have p1 := rowCell HP3.out (i := 1) rfl
  have p2 := rowCell HP3.out (i := 2) rfl
  have p3 := rowCell HP3.out (i := 3) rfl
  have p4 := rowCell HP3.out (i := 4) rfl
  go_wp2_with fail
  refine (units_any g r2 p q 20 w3 Ht3.out (by omega) hwl).mono ?_
  rintro e w5 ⟨l, UA, uc, r5, rfl, hU, ht5, hg5, hok, hlen⟩
  clear p0 p1 p2 p3 p4
  have HU := Lib.hid hU
  have Ht5 := Lib.hid ht5
  have Hg35 := Lib.hid hg5
  have Hg5 := Lib.hid (only_trans Hg3.out hg5)
  have Hok := Lib.hid (hok Hck.out)
  have hs5 := hg5.size
  have Ho5 := Lib.hid (Ho3.out.only hg5 (by omega))
  have HP5 : Hid (w5.heap[w2.heap.size]? = some (.cells #[.slice p.a1 q.ws.length p.c1, .slice p.a2 q.ls.length p.c2, .slice p.a3 q.ss.length p.c3, .int .i64 q.le, .int .i64 q.ra] 24 (0, 0))) := Lib.hid ((hg5.block _ hlt3 (fun e => by injection e; omega)).trans HP3.out)
  clear hU ht5 hg5 hok Ht3 Ho3 HP3 Hg3

  have H05 : Hid (Below w.heap.size w w5) := Lib.hid (below_only Hb1.out Hg5.out hwg hs1)
  have hs05 := H05.out.size
  have HPd : Hid (w5.drew.heap[w2.heap.size]? = some (.cells #[.slice p.a1 q.ws.length p.c1, .slice p.a2 q.ls.length p.c2, .slice p.a3 q.ss.length p.c3, .int .i64 q.le, .int .i64 q.ra] 24 (0, 0))) := Lib.hid HP5.out
  have a0 := rowCell HPd.out (i := 0) rfl
  have a1 := rowCell HPd.out (i := 1) rfl
  have a2 := rowCell HPd.out (i := 2) rfl
  have a3 := rowCell HPd.out (i := 3) rfl
  have a4 := rowCell HPd.out (i := 4) rfl
  have Htd : Hid (TapeAt w5.drew g r5) := Lib.hid Ht5.out.drew
  have hX2 : w2.heap.size < w5.drew.heap.size := by show w2.heap.size < w5.heap.size; omega
  have hXg : w2.heap.size ≠ g := by omega
  have hU5 : Hid (SlU w5 UA l.length uc l) := Lib.hid HU.out.slu
  go_upto_region 6 with fail
  go_cut [35, 36, 37] (fun s1 s2 s3 wx => ∃ BS : Nat, s1 = .slice (some ⟨BS, 0, none⟩) 2 2 ∧ s2 = .int .i64 2 ∧ s3 = .int .i64 0 ∧ BS < wx.heap.size ∧ w.heap.size ≤ wx.heap.size ∧ Below w.heap.size w wx ∧ (∀ j, j < 2 → AtQ wx BS j) ∧ (SlU wx UA l.length uc l ∧ SlU wx LA L.length lc L))
  case first =>
    go_region_held3 (fun w' => w'.cell? ⟨w2.heap.size, 0, none⟩ = some (.slice p.a1 q.ws.length p.c1) ∧ w'.cell? ⟨w2.heap.size, 1, none⟩ = some (.slice p.a2 q.ls.length p.c2) ∧ w'.cell? ⟨w2.heap.size, 2, none⟩ = some (.slice p.a3 q.ss.length p.c3) ∧ w'.cell? ⟨w2.heap.size, 3, none⟩ = some (.int .i64 q.le) ∧ w'.cell? ⟨w2.heap.size, 4, none⟩ = some (.int .i64 q.ra)) (first | with_reducible exact ⟨a0, a1, a2, a3, a4⟩ | go_keep | ((repeat' apply And.intro) <;> go_keep))
      (first
        | (go_at_call 15
           refine (spoilt_any g _ by_ _ Htd.out).mono ?_
           rintro e w9 ⟨p1, q1, r9, rfl, ho9, ht9, hg9, hsp9⟩
           have Ho9 := Lib.hid ho9
           have Hg9 := Lib.hid hg9
           have hs9 : w5.heap.size ≤ w9.heap.size := hg9.size
           have hgw8 : g < w5.drew.heap.size := by show g < w5.heap.size; omega
           have HP9 := Lib.hid ((hg9.block w2.heap.size hX2 (fun e => by injection e; omega)).trans HPd.out)
           have b0 := rowCell HP9.out (i := 0) rfl
           have b1 := rowCell HP9.out (i := 1) rfl
           have b2 := rowCell HP9.out (i := 2) rfl
           have b3 := rowCell HP9.out (i := 3) rfl
           have b4 := rowCell HP9.out (i := 4) rfl
           clear ho9 ht9 hg9)
        | fail)
    clear a0 a1 a2 a3 a4 b0 b1 b2 b3 b4
    go_wp2
    go_meet
    case rel =>
      have Hg9x : Hid (w5.grownBy w9 (some g)) := Lib.hid (only_trans (only_below (World.grownBy.refl _ _) (Below.drew (Below.refl _ _)) (Nat.le_refl _)) Hg9.out)
      have H09 := Lib.hid (below_only H05.out Hg9x.out hwg (by omega))
      have hrow := heap_alloc_new w9 (.cells #[.slice p.a1 q.ws.length p.c1, .slice p.a2 q.ls.length p.c2, .slice p.a3 q.ss.length p.c3, .int .i64 q.le, .int .i64 q.ra, .slice p1.a1 q1.ws.length p1.c1, .slice p1.a2 q1.ls.length p1.c2, .slice p1.a3 q1.ss.length p1.c3, .int .i64 q1.le, .int .i64 q1.ra] 24)
      have Hb11 : Hid (Below w9.heap.size w9 (w9.alloc (.cells #[.slice p.a1 q.ws.length p.c1, .slice p.a2 q.ls.length p.c2, .slice p.a3 q.ss.length p.c3, .int .i64 q.le, .int .i64 q.ra, .slice p1.a1 q1.ws.length p1.c1, .slice p1.a2 q1.ls.length p1.c2, .slice p1.a3 q1.ss.length p1.c3, .int .i64 q1.le, .int .i64 q1.ra] 24))) := Lib.hid (by repeat' (first | with_reducible exact Below.refl _ _ | with_reducible refine below_drewN ?_ _ | with_reducible refine Below.drew ?_ | with_reducible refine Below.alloc ?_ ?_ _ | with_reducible refine Below.setCell ?_ ?_ _ | with_reducible refine Below.trans ?_ (Below.mono (by with_reducible assumption) ?_) | (simp; done) | (simp; omega) | omega))
      have Ho9' := Lib.hid (Ho5.out.only Hg9x.out (by omega))
      have HU9 := Lib.hid (HU.out.only Hg9x.out (by omega))
      have hs11 : w9.heap.size < (w9.alloc (.cells #[.slice p.a1 q.ws.length p.c1, .slice p.a2 q.ls.length p.c2, .slice p.a3 q.ss.length p.c3, .int .i64 q.le, .int .i64 q.ra, .slice p1.a1 q1.ws.length p1.c1, .slice p1.a2 q1.ls.length p1.c2, .slice p1.a3 q1.ss.length p1.c3, .int .i64 q1.le, .int .i64 q1.ra] 24)).heap.size := by simp
      generalize w9.alloc (.cells #[.slice p.a1 q.ws.length p.c1, .slice p.a2 q.ls.length p.c2, .slice p.a3 q.ss.length p.c3, .int .i64 q.le, .int .i64 q.ra, .slice p1.a1 q1.ws.length p1.c1, .slice p1.a2 q1.ls.length p1.c2, .slice p1.a3 q1.ss.length p1.c3, .int .i64 q1.le, .int .i64 q1.ra] 24) = w11 at hrow Hb11 hs11 ⊢
      have HB11 : Hid (Below w.heap.size w w11) := Lib.hid (H09.out.trans (Hb11.out.mono H09.out.size))
      refine ⟨w9.heap.size, rfl, rfl, rfl, hs11, HB11.out.size, HB11.out, ?_, HU9.out.slu.below Hb11.out, HL.out.below HB11.out⟩
      intro j hj
      rcases (show j = 0 ∨ j = 1 by omega) with rfl | rfl
      · exact ⟨p, q, cell_of_row _ _ 0 _ _ _ hrow, cell_of_row _ _ 1 _ _ _ hrow, cell_of_row _ _ 2 _ _ _ hrow, cell_of_row _ _ 3 _ _ _ hrow, cell_of_row _ _ 4 _ _ _ hrow, Ho9'.out.at.below Hb11.out⟩
      · exact ⟨p1, q1, cell_of_row _ _ 5 _ _ _ hrow, cell_of_row _ _ 6 _ _ _ hrow, cell_of_row _ _ 7 _ _ _ hrow, cell_of_row _ _ 8 _ _ _ hrow, cell_of_row _ _ 9 _ _ _ hrow, Ho9.out.at.below Hb11.out⟩
  case rest =>
    obtain ⟨w11, rfl⟩ : ∃ w11 : World, w11 = wc := ⟨_, rfl⟩
    obtain ⟨BS, rfl, rfl, rfl, hs11, hsw11, h11, hR, hLs⟩ := hcut
    have H11 := Lib.hid h11
    have HR := Lib.hid hR
    have HLs := Lib.hid hLs
    clear h11 hR hLs HU Ht5 Ho5 HP5 HPd Htd hU5 H05 a0 a1 a2 a3 a4 hX2 hXg Hok HL
    go_wp2_with fail
    go_loopw [15, 16, 17, 18, 19, 37, 45] (fun _ _ _ _ _ i _ wr => ∃ j : Nat, j ≤ 2 ∧ i = .int .i64 (j : Int) ∧ Below w11.heap.size w11 wr) (fun _ _ _ _ _ i _ _ => (2 - intOf i).toNat)
    case atStart => exact ⟨0, by omega, rfl, Below.refl _ _⟩
    case round =>
      obtain ⟨j, hj, rfl, hbw⟩ := hrel
      have Hbw := Lib.hid hbw
      have hsw := hbw.size
      clear hbw
      by_cases hj4 : j < 2
      · have hj4' : (j : Int) < 2 := by omega
        obtain ⟨px, qx, g0, g1, g2, g3, g4, hat⟩ := HR.out j hj4
        have c0 := (Hbw.out.cell (p := ⟨BS, j * 5, none⟩) hs11).trans g0
        have c1 := (Hbw.out.cell (p := ⟨BS, j * 5 + 1, none⟩) hs11).trans g1
        have c2 := (Hbw.out.cell (p := ⟨BS, j * 5 + 2, none⟩) hs11).trans g2
        have c3 := (Hbw.out.cell (p := ⟨BS, j * 5 + 3, none⟩) hs11).trans g3
        have c4 := (Hbw.out.cell (p := ⟨BS, j * 5 + 4, none⟩) hs11).trans g4
        have Hat := Lib.hid (hat.below Hbw.out)
        clear g0 g1 g2 g3 g4 hat
        go_upto_region 9 with fail
        clear c0 c1 c2 c3 c4
        have hT := heap_alloc_new wr (.cells #[.slice px.a1 qx.ws.length px.c1, .slice px.a2 qx.ls.length px.c2, .slice px.a3 qx.ss.length px.c3, .int .i64 qx.le, .int .i64 qx.ra] 24)
        have HbT : Hid (Below wr.heap.size wr (wr.alloc (.cells #[.slice px.a1 qx.ws.length px.c1, .slice px.a2 qx.ls.length px.c2, .slice px.a3 qx.ss.length px.c3, .int .i64 qx.le, .int .i64 qx.ra] 24))) := Lib.hid (by repeat' (first | with_reducible exact Below.refl _ _ | with_reducible refine below_drewN ?_ _ | with_reducible refine Below.drew ?_ | with_reducible refine Below.alloc ?_ ?_ _ | with_reducible refine Below.setCell ?_ ?_ _ | with_reducible refine Below.trans ?_ (Below.mono (by with_reducible assumption) ?_) | (simp; done) | (simp; omega) | omega))
        obtain ⟨T, hTe⟩ : ∃ T, wr.heap.size = T := ⟨_, rfl⟩
        have hTlt : T < (wr.alloc (.cells #[.slice px.a1 qx.ws.length px.c1, .slice px.a2 qx.ls.length px.c2, .slice px.a3 qx.ss.length px.c3, .int .i64 qx.le, .int .i64 qx.ra] 24)).heap.size := by rw [← hTe]; simp
        have HaT := Lib.hid (Hat.out.below HbT.out)
        rw [hTe] at hT ⊢
        generalize wr.alloc (.cells #[.slice px.a1 qx.ws.length px.c1, .slice px.a2 qx.ls.length px.c2, .slice px.a3 qx.ss.length px.c3, .int .i64 qx.le, .int .i64 qx.ra] 24) = wT at hT HbT hTlt HaT ⊢
        have HbT2 : Hid (Below w11.heap.size w11 wT) := Lib.hid (Hbw.out.trans (HbT.out.mono hsw))
        have HT := Lib.hid hT
        have hswT := HbT2.out.size
        clear hT hTe Hat HbT
        have HLS : Hid (SlU wT UA l.length uc l ∧ SlU wT LA L.length lc L) := Lib.hid ⟨HLs.out.1.below HbT2.out, HLs.out.2.below HbT2.out⟩
        go_cut [43, 44, 45] (fun s1 s2 s3 wx => ∃ BU : Nat, s1 = .slice (some ⟨BU, 0, none⟩) 2 2 ∧ s2 = .int .i64 2 ∧ s3 = .int .i64 0 ∧ BU < wx.heap.size ∧ Below wT.heap.size wT wx ∧ ∀ j, j < 2 → AtV wx BU j)
        case first =>
          go_wp2_with fail
          go_meet
          case rel =>
            have hrow := heap_alloc_new wT (.cells #[.slice UA l.length uc, .slice LA L.length lc] 25)
            have Hb : Hid (Below wT.heap.size wT (wT.alloc (.cells #[.slice UA l.length uc, .slice LA L.length lc] 25))) := Lib.hid (by repeat' (first | with_reducible exact Below.refl _ _ | with_reducible refine below_drewN ?_ _ | with_reducible refine Below.drew ?_ | with_reducible refine Below.alloc ?_ ?_ _ | with_reducible refine Below.setCell ?_ ?_ _ | with_reducible refine Below.trans ?_ (Below.mono (by with_reducible assumption) ?_) | (simp; done) | (simp; omega) | omega))
            have hs : wT.heap.size < (wT.alloc (.cells #[.slice UA l.length uc, .slice LA L.length lc] 25)).heap.size := by simp
            generalize wT.alloc (.cells #[.slice UA l.length uc, .slice LA L.length lc] 25) = wx at hrow Hb hs ⊢
            refine ⟨wT.heap.size, rfl, rfl, rfl, hs, Hb.out, ?_⟩
            intro j hj
            rcases (show j = 0 ∨ j = 1 by omega) with rfl | rfl
            · exact ⟨UA, uc, l, cell_of_row _ _ 0 _ _ _ hrow, HLS.out.1.below Hb.out⟩
            · exact ⟨LA, lc, L, cell_of_row _ _ 1 _ _ _ hrow, HLS.out.2.below Hb.out⟩
        case rest =>
          obtain ⟨wU, rfl⟩ : ∃ wU : World, wU = wc := ⟨_, rfl⟩
          obtain ⟨BU, rfl, rfl, rfl, hsBU, hbU, hU⟩ := hcut
          have HbU := Lib.hid hbU
          have HUs := Lib.hid hU
          have hsU := hbU.size
          clear hbU hU HLS
          go_wp2_with fail
          go_loopw [15, 16, 17, 18, 19, 45] (fun _ _ _ _ _ i wr => ∃ j : Nat, j ≤ 2 ∧ i = .int .i64 (j : Int) ∧ Below wU.heap.size wU wr) (fun _ _ _ _ _ i _ => (2 - intOf i).toNat)
          case atStart => exact ⟨0, by omega, rfl, Below.refl _ _⟩
          case round =>
            obtain ⟨jj, hjj, rfl, hbw⟩ := hrel
            have Hbv := Lib.hid hbw
            have hsv := hbw.size
            have HbS3 : Hid (Below wT.heap.size wT wr) := Lib.hid (HbU.out.trans (hbw.mono hsU))
            clear hbw
            have HTr : Hid (wr.heap[T]? = some (.cells #[.slice px.a1 qx.ws.length px.c1, .slice px.a2 qx.ls.length px.c2, .slice px.a3 qx.ss.length px.c3, .int .i64 qx.le, .int .i64 qx.ra] 24 (0, 0))) := Lib.hid ((HbS3.out.block T hTlt).trans HT.out)
            have HaR := Lib.hid (HaT.out.below HbS3.out)
            have hTr : T < wr.heap.size := by omega
            by_cases hj3 : jj < 2
            · have hj3' : (jj : Int) < 2 := by omega
              obtain ⟨A1, c1, L1, d0, hsl⟩ := HUs.out jj hj3
              have e0 := (Hbv.out.cell (p := ⟨BU, jj, none⟩) hsBU).trans d0
              have HSl := Lib.hid (hsl.below Hbv.out)
              clear d0 hsl
              go_upto_region 12 with fail
              clear e0
              have t0 := rowCell HTr.out (i := 0) rfl
              have t1 := rowCell HTr.out (i := 1) rfl
              have t2 := rowCell HTr.out (i := 2) rfl
              have t3 := rowCell HTr.out (i := 3) rfl
              have t4 := rowCell HTr.out (i := 4) rfl
              have HC1 := Lib.hid (chooseS_any px qx A1 c1 L1 seed wr HaR.out HSl.out)
              have HC2 := Lib.hid (fun W (hW : Below wr.heap.size wr W) => chooseR_any px qx A1 c1 L1 seed W (HaR.out.below hW) (HSl.out.below hW))
              obtain ⟨cr, hcr⟩ : ∃ x, chooseP qx (uns L1) seed = x := ⟨_, rfl⟩
              rw [hcr] at HC1
              simp only [hcr] at HC2
              clear hcr
              obtain ⟨k1, e1⟩ := cr
              go_wp2_with fail
              refine HC1.out.mono ?_
              rintro e w9 ⟨v1, rfl, hown1, hb9⟩
              dsimp only at hown1
              obtain ⟨KA, kc, rfl, hSk⟩ := SlK.of_own hown1
              have HSk := Lib.hid hSk
              have Hb9 := Lib.hid hb9
              have hs9 := hb9.size
              have HT9 : Hid (w9.heap[T]? = some (.cells #[.slice px.a1 qx.ws.length px.c1, .slice px.a2 qx.ls.length px.c2, .slice px.a3 qx.ss.length px.c3, .int .i64 qx.le, .int .i64 qx.ra] 24 (0, 0))) := Lib.hid ((hb9.block T hTr).trans HTr.out)
              clear hown1 hSk hb9 t0 t1 t2 t3 t4 HC1
              have t0 := rowCell HT9.out (i := 0) rfl
              have t1 := rowCell HT9.out (i := 1) rfl
              have t2 := rowCell HT9.out (i := 2) rfl
              have t3 := rowCell HT9.out (i := 3) rfl
              have t4 := rowCell HT9.out (i := 4) rfl
              go_wp2_with fail
              refine (HC2.out _ Hb9.out).mono ?_
              rintro e w10 ⟨v2, rfl, hown2, hb10⟩
              dsimp only at hown2
              obtain ⟨RA, rc, rfl, hSr⟩ := SlK.of_own hown2
              have HSr := Lib.hid hSr
              have Hb10 := Lib.hid hb10
              have Hb810 := Lib.hid (Hb9.out.trans (hb10.mono hs9))
              have HSk2 := Lib.hid (HSk.out.below hb10)
              clear hown2 hSr t0 t1 t2 t3 t4 HC2 hb10
              have HQ : Hid (Calls Try.prog 29 #[.slice KA k1.length kc, .slice RA k1.length rc] w10 fun ed w' => ed = .returned (.bool true) ∧ Below w10.heap.size w10 w') := Lib.hid (by
                have := samePicks_any KA RA _ _ kc rc k1 k1 w10 HSk2.out HSr.out
                rw [decide_eq_true rfl] at this
                exact this)
              have hs10 := Hb810.out.size
              go_wp2_with (first
                | (go_at_call 29
                   refine HQ.out.mono ?_
                   rintro e wC ⟨rfl, hbC⟩)
                | fail)
              go_roundw
              case rel => exact ⟨jj + 1, by omega, by go_num, (Hbv.out.trans (Hb810.out.mono hsv)).trans (hbC.mono (by omega))⟩
              case measure => simp [intOf]; omega
            · have hj3' : ¬ (jj : Int) < 2 := by omega
              go_wp2
              go_roundw
              case rel => exact ⟨j + 1, by omega, by go_num, HbT2.out.trans (HbS3.out.mono hswT)⟩
              case measure => simp [intOf]; omega
      · have hj4' : ¬ (j : Int) < 2 := by omega
        go_wp2_with fail
        refine (awake25_any _).mono ?_
        rintro e w12 ⟨rfl, hb12⟩
        go_wp2
        go_ret
        exact ⟨rfl, (H11.out.trans (Hbw.out.mono hsw11)).trans (hb12.mono (by omega))⟩
end Go.Proofs.Ytjmbdfoegnfpnaa
