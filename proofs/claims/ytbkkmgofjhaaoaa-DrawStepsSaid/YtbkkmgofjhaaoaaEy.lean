/- DrawSteps: its walk. -/
import Derived.Test.YtbkkmgofjhaaoaaEx
import Derived.Test.YtbkkmgofjhaaoaaHT
namespace Go.Proofs.Ytbkkmgofjhaaoaa
open Go.RowKit
set_option linter.unusedVariables false
set_option linter.unusedSimpArgs false

/-- A raw draw in a block, a draw and what its parties know in another, beside a tape. -/
structure ZS (w W : World) (g b0 G L m : Nat) (p : DV) (d : Dr) (q : DV) (dd : Dr) (u v : Value) (l k r : List Int) : Prop where
  bel : Below w.heap.size w W
  raw : W.heap[b0]? = some (.cells #[.int .i64 d.st, .slice p.a1 d.se.length p.c1, .slice p.a2 d.sd.length p.c2, .slice p.a3 d.sx.length p.c3, .slice p.a4 d.rv.length p.c4] 26 (0, 0))
  bL : W.heap[L]? = some (.cells (lotsCells q dd u v) 32 (0, 0))
  dr : OwnD W G q dd
  oA : W.ownsRow G 27 1 u m (l.map (.int .u64))
  oB : W.ownsRow G 27 1 v m (k.map (.int .u64))
  la : l.length = m
  lb : k.length = m
  tp : TapeAt W g r
  hb0 : w.heap.size ≤ b0
  hbg : b0 < g
  gG : g < G
  GL : G ≤ L
  LW : L < W.heap.size
section
variable {w W W' : World} {g b0 G L m : Nat} {p : DV} {d : Dr} {q : DV} {dd : Dr} {u v : Value} {l k r r' : List Int}
theorem ZS.below (h : ZS w W g b0 G L m p d q dd u v l k r) (hb : Below W.heap.size W W') : ZS w W' g b0 G L m p d q dd u v l k r := by
  have h1 := h.LW
  have h2 := h.GL
  have h3 := h.gG
  have h4 := h.hbg
  exact ⟨h.bel.trans (hb.mono h.bel.size), (hb.block _ (by omega)).trans h.raw, (hb.block _ h1).trans h.bL, h.dr.below hb, ownsRow_below h.oA hb, ownsRow_below h.oB hb, h.la, h.lb, h.tp.below hb (by omega), h.hb0, h4, h3, h2, Nat.lt_of_lt_of_le h1 hb.size⟩
theorem ZS.tape (h : ZS w W g b0 G L m p d q dd u v l k r) (hn : W.grownBy W' (some g)) (ht : TapeAt W' g r') : ZS w W' g b0 G L m p d q dd u v l k r' := by
  have h1 := h.LW
  have h2 := h.GL
  have h3 := h.gG
  have h4 := h.hbg
  have h5 := h.hb0
  exact ⟨below_only h.bel hn (by omega) h.bel.size, (hn.block _ (by omega) (fun e => by injection e with e; omega)).trans h.raw, (hn.block _ h1 (fun e => by injection e with e; omega)).trans h.bL, h.dr.old hn h3, ownsRow_only h.oA hn h3, ownsRow_only h.oB hn h3, h.la, h.lb, ht, h5, h4, h3, h2, Nat.lt_of_lt_of_le h1 hn.size⟩
end

set_option maxHeartbeats 32000000 in
set_option maxRecDepth 100000 in
theorem stepsLaw (A : Option Addr) (n c : Nat) (zs : List Int) (p : DV) (d : Dr) (party a b by_ : Int) (w : World) (hn : zs.length = n) (hc : n ≤ c) (hm : c ≤ maxLen) (hw : ∀ z ∈ zs, (Lit.int .i64 z).wf = true) (hA : Lies w A n (zs.map (.int .i64))) (hd : DrAt w p d)
    (hp : -9223372036854775808 ≤ party ∧ party ≤ 9223372036854775807) (hy : -9223372036854775808 ≤ by_ ∧ by_ ≤ 9223372036854775807) :
    Calls Try.prog 3 #[.slice A n c, .agg #[.int .i64 d.st, .slice p.a1 d.se.length p.c1, .slice p.a2 d.sd.length p.c2, .slice p.a3 d.sx.length p.c3, .slice p.a4 d.rv.length p.c4], .int .i64 party, .int .u64 a, .int .u64 b, .int .i64 by_] w fun e w' => e = .returned (.bool true) ∧ Below w.heap.size w w' := by
  have HNew := Lib.hid (tape_new A n c zs w hn hc hm hw hA)
  have HD2 := Lib.hid hd
  obtain ⟨hp1, hp2⟩ := hp
  obtain ⟨hy1, hy2⟩ := hy
  clear hw hA hd hn hm hc
  by_cases h1 : (8 : Int) < (d.se.length : Int)
  · go_enter Try.func3, Try.ntmps3
    go_wp2_with (first | (go_at_call 9; refine (awake_any _).mono ?_; rintro e w1 ⟨rfl, hb1⟩; have Hb1 : Hid (Below w.heap.size w w1) := Lib.hid (show Below w.heap.size w w1 from (by have hbq := hb1; exact (by repeat' (first | with_reducible exact Below.refl _ _ | with_reducible assumption | with_reducible refine below_drewN ?_ _ | with_reducible refine Below.drew ?_ | with_reducible refine Below.alloc ?_ ?_ _ | with_reducible refine Below.setCell ?_ ?_ _ | with_reducible refine Below.trans ?_ (Below.mono (by with_reducible assumption) ?_) | with_reducible refine below_only ?_ (by with_reducible assumption) ?_ ?_ | (simp; done) | (simp; omega) | omega)))); clear hb1) | fail)
    go_ret
    exact ⟨rfl, Hb1.out⟩
  by_cases h2 : (8 : Int) < (d.sd.length : Int)
  · go_enter Try.func3, Try.ntmps3
    go_wp2_with (first | (go_at_call 9; refine (awake_any _).mono ?_; rintro e w1 ⟨rfl, hb1⟩; have Hb1 : Hid (Below w.heap.size w w1) := Lib.hid (show Below w.heap.size w w1 from (by have hbq := hb1; exact (by repeat' (first | with_reducible exact Below.refl _ _ | with_reducible assumption | with_reducible refine below_drewN ?_ _ | with_reducible refine Below.drew ?_ | with_reducible refine Below.alloc ?_ ?_ _ | with_reducible refine Below.setCell ?_ ?_ _ | with_reducible refine Below.trans ?_ (Below.mono (by with_reducible assumption) ?_) | with_reducible refine below_only ?_ (by with_reducible assumption) ?_ ?_ | (simp; done) | (simp; omega) | omega)))); clear hb1) | fail)
    go_ret
    exact ⟨rfl, Hb1.out⟩
  by_cases h3 : (8 : Int) < (d.sx.length : Int)
  · go_enter Try.func3, Try.ntmps3
    go_wp2_with (first | (go_at_call 9; refine (awake_any _).mono ?_; rintro e w1 ⟨rfl, hb1⟩; have Hb1 : Hid (Below w.heap.size w w1) := Lib.hid (show Below w.heap.size w w1 from (by have hbq := hb1; exact (by repeat' (first | with_reducible exact Below.refl _ _ | with_reducible assumption | with_reducible refine below_drewN ?_ _ | with_reducible refine Below.drew ?_ | with_reducible refine Below.alloc ?_ ?_ _ | with_reducible refine Below.setCell ?_ ?_ _ | with_reducible refine Below.trans ?_ (Below.mono (by with_reducible assumption) ?_) | with_reducible refine below_only ?_ (by with_reducible assumption) ?_ ?_ | (simp; done) | (simp; omega) | omega)))); clear hb1) | fail)
    go_ret
    exact ⟨rfl, Hb1.out⟩
  by_cases h4 : (8 : Int) < (d.rv.length : Int)
  · go_enter Try.func3, Try.ntmps3
    go_wp2_with (first | (go_at_call 9; refine (awake_any _).mono ?_; rintro e w1 ⟨rfl, hb1⟩; have Hb1 : Hid (Below w.heap.size w w1) := Lib.hid (show Below w.heap.size w w1 from (by have hbq := hb1; exact (by repeat' (first | with_reducible exact Below.refl _ _ | with_reducible assumption | with_reducible refine below_drewN ?_ _ | with_reducible refine Below.drew ?_ | with_reducible refine Below.alloc ?_ ?_ _ | with_reducible refine Below.setCell ?_ ?_ _ | with_reducible refine Below.trans ?_ (Below.mono (by with_reducible assumption) ?_) | with_reducible refine below_only ?_ (by with_reducible assumption) ?_ ?_ | (simp; done) | (simp; omega) | omega)))); clear hb1) | fail)
    go_ret
    exact ⟨rfl, Hb1.out⟩
  have hsm : Hid d.small := Lib.hid (by unfold Dr.small; omega)
  have hmb := modV_bd party 6 (by omega)
  obtain ⟨K, hK⟩ : ∃ K, modV party 6 = K + 1 := ⟨modV party 6 - 1, by omega⟩
  have HMod : Hid (∀ W, Calls Try.prog 12 #[.int .i64 party, .int .i64 6] W fun e w' => e = .returned (.int .i64 (K + 1)) ∧ W = w') := Lib.hid (fun W => by have := mod_any party 6 W ⟨hp1, hp2⟩ (by omega); rw [hK] at this; exact this)
  have hKl : -1 ≤ K := by omega
  have hKh : K ≤ 4 := by omega
  clear hK hmb
  obtain ⟨r0, hr0⟩ : ∃ r, zs.take 400 = r := ⟨_, rfl⟩
  rw [hr0] at HNew
  go_enter Try.func3, Try.ntmps3
  go_upto_region 3 with fail
  have hraw := heap_alloc_new w (.cells #[.int .i64 d.st, .slice p.a1 d.se.length p.c1, .slice p.a2 d.sd.length p.c2, .slice p.a3 d.sx.length p.c3, .slice p.a4 d.rv.length p.c4] 26)
  have Hb0 : Hid (Below w.heap.size w (w.alloc (.cells #[.int .i64 d.st, .slice p.a1 d.se.length p.c1, .slice p.a2 d.sd.length p.c2, .slice p.a3 d.sx.length p.c3, .slice p.a4 d.rv.length p.c4] 26))) := Lib.hid (by repeat' (first | with_reducible exact Below.refl _ _ | with_reducible refine below_drewN ?_ _ | with_reducible refine Below.drew ?_ | with_reducible refine Below.alloc ?_ ?_ _ | with_reducible refine Below.setCell ?_ ?_ _ | with_reducible refine Below.trans ?_ (Below.mono (by with_reducible assumption) ?_) | (simp; done) | (simp; omega) | omega))
  generalize w.alloc (.cells #[.int .i64 d.st, .slice p.a1 d.se.length p.c1, .slice p.a2 d.sd.length p.c2, .slice p.a3 d.sx.length p.c3, .slice p.a4 d.rv.length p.c4] 26) = w0 at *
  have hs0 : w.heap.size < w0.heap.size := by
    rcases Nat.lt_or_ge w.heap.size w0.heap.size with h | h
    · exact h
    · rw [Array.getElem?_eq_none h] at hraw; cases hraw
  have Hraw := Lib.hid hraw
  clear hraw hr0
  go_upto_region 5 with (first
    | (go_at_call 10
       refine (HNew.out _ Hb0.out).mono ?_
       rintro e w1 ⟨g, rfl, hg1, ht1, hb1⟩
       have Ht1 := Lib.hid ht1
       have Hb1 := Lib.hid hb1
       have hgl := ht1.lt
       clear ht1 hb1)
    | (go_at_call 11
       refine (lots_any g _ 2 _ Ht1.out (by omega) (by omega)).mono ?_
       rintro e w2 ⟨q, dd, A1, a1, B1, b1, m, l, k, r, rfl, hown2, hlen2, hm1, hm4, hA2, hB2, hla, hlb, ht2, hg2⟩
       have HZ0 : Hid (ZS w (w2.alloc (.cells (lotsCells q dd (.slice A1 m a1) (.slice B1 m b1)) 32 (0, 0))) g w.heap.size w1.heap.size w2.heap.size m p d q dd (.slice A1 m a1) (.slice B1 m b1) l k r) := Lib.hid (by
         have ba : Below w2.heap.size w2 (w2.alloc (.cells (lotsCells q dd (.slice A1 m a1) (.slice B1 m b1)) 32 (0, 0))) := (Below.refl _ _).alloc (Nat.le_refl _) _
         have hs1 := Hb1.out.size
         have hs2 := hg2.size
         have b02 : Below w0.heap.size w0 w2 := below_only Hb1.out hg2 hg1 hs1
         exact ⟨(Hb0.out.trans (b02.mono (by omega))).trans (ba.mono (by omega)), (ba.block _ (by omega)).trans ((b02.block _ hs0).trans Hraw.out), heap_alloc_new w2 _, hown2.below ba, ownsRow_below hA2 ba, ownsRow_below hB2 ba, hla, hlb, ht2.below ba (by omega), Nat.le_refl _, by omega, hgl, hs2, by simp⟩)
       have Hlen := Lib.hid hlen2
       clear hown2 hlen2 hA2 hB2 hla hlb ht2 hg2)
    | fail)
  unfold lotsCells at HZ0
  obtain ⟨L, hL⟩ : ∃ L, w2.heap.size = L := ⟨_, rfl⟩
  rw [hL] at HZ0 ⊢
  generalize w2.alloc (.cells #[.int .i64 dd.st, .slice q.a1 dd.se.length q.c1, .slice q.a2 dd.sd.length q.c2, .slice q.a3 dd.sx.length q.c3, .slice q.a4 dd.rv.length q.c4, .slice A1 m a1, .slice B1 m b1] 32 (0, 0)) = w3 at *
  obtain ⟨G, hG⟩ : ∃ G, w1.heap.size = G := ⟨_, rfl⟩
  rw [hG] at HZ0
  clear hL hG Hb1 Ht1 HNew hg1 hgl
  go_upto_region 7 with (first | (go_at_call 12; refine (HMod.out _).mono ?_; rintro e w' ⟨rfl, rfl⟩) | fail)
  clear HMod
  go_cut [77] (fun t wx => ∃ (bb : Bool) (r' : List Int), t = .bool bb ∧ (bb = true → 0 ≤ K ∧ K < (m : Int)) ∧ ZS w wx g w.heap.size G L m p d q dd (.slice A1 m a1) (.slice B1 m b1) l k r')
  case first =>
    by_cases hK0 : 0 ≤ K
    · by_cases hKm : K < (m : Int)
      · have hny := nx_bd r 3 (by omega)
        obtain ⟨y, hy⟩ : ∃ y, nx r 3 = y := ⟨_, rfl⟩
        have HN := Lib.hid (next_any g r 3 w3 HZ0.out.tp (by omega))
        rw [hy] at HN hny
        have c5 := (LotsC.of (q := q) (d := dd) (u := .slice A1 m a1) (v := .slice B1 m b1) (t := 32) HZ0.out.bL).c5
        clear hy
        by_cases hy0 : 0 < y
        all_goals
          go_wp2_with (first
            | (go_at_call 13
               refine HN.out.mono ?_
               rintro e w4 ⟨rfl, ht4, hg4⟩
               have HZ1 := Lib.hid (HZ0.out.tape hg4 ht4)
               clear ht4 hg4)
            | fail)
          go_meet
          exact ⟨_, _, rfl, fun _ => ⟨hK0, hKm⟩, HZ1.out⟩
      · have c5 := (LotsC.of (q := q) (d := dd) (u := .slice A1 m a1) (v := .slice B1 m b1) (t := 32) HZ0.out.bL).c5
        go_wp2
        go_meet
        exact ⟨_, _, rfl, fun h => (by cases h), HZ0.out⟩
    · go_wp2
      go_meet
      exact ⟨_, _, rfl, fun h => (by cases h), HZ0.out⟩
  case rest =>
    obtain ⟨wo, rfl⟩ : ∃ wo : World, wo = wc := ⟨_, rfl⟩
    obtain ⟨bb, r', rfl, hbb, hz⟩ := hcut
    have HZ1 := Lib.hid hz
    have Hbb := Lib.hid hbb
    clear hz hbb HZ0
    go_upto_if 77 with fail
    go_cut [16, 17] (fun s t wx => ∃ (sa ta : Int), s = .int .u64 sa ∧ t = .int .u64 ta ∧ ZS w wx g w.heap.size G L m p d q dd (.slice A1 m a1) (.slice B1 m b1) l k r')
    case first =>
      cases bb with
      | true =>
        obtain ⟨hK0, hKm⟩ := Hbb.out rfl
        obtain ⟨kn, rfl⟩ := Int.eq_ofNat_of_zero_le hK0
        have hkn : kn < m := by omega
        have hbk := LotsC.of (q := q) (d := dd) (u := .slice A1 m a1) (v := .slice B1 m b1) (t := 32) HZ1.out.bL
        have c5 := hbk.c5
        have c6 := hbk.c6
        clear hbk
        obtain ⟨bU, cU, hue, _, _, _, _, hcu, _⟩ := own_at HZ1.out.oA (by omega)
        obtain ⟨bV, cV, hve, _, _, _, _, hcv, _⟩ := own_at HZ1.out.oB (by omega)
        have cu := hcu kn _ (List.getElem?_eq_getElem (l := l.map (Value.int .u64)) (i := kn) (by rw [List.length_map, HZ1.out.la]; exact hkn))
        have cv := hcv kn _ (List.getElem?_eq_getElem (l := k.map (Value.int .u64)) (i := kn) (by rw [List.length_map, HZ1.out.lb]; exact hkn))
        rw [List.getElem_map] at cu cv
        generalize l[kn]'_ = sa at cu
        generalize k[kn]'_ = ta at cv
        injection hue with e1 e2 e3
        injection hve with e4 e5 e6
        subst e1 e3 e4 e6
        clear hcu hcv e2 e5
        go_wp2
        go_quiet (fail)
        go_wp2
        go_meet
        exact ⟨_, _, rfl, rfl, HZ1.out.below (below_drewN (Below.refl _ _) _)⟩
      | false =>
        go_wp2
        go_meet
        exact ⟨_, _, rfl, rfl, HZ1.out⟩
    case rest =>
      obtain ⟨wo2, rfl⟩ : ∃ wo : World, wo = wc := ⟨_, rfl⟩
      obtain ⟨sa, ta, rfl, rfl, hz⟩ := hcut
      have HZ2 := Lib.hid hz
      clear hz HZ1 Hbb
      go_upto_region 9 with fail
      have hm5 := modV_bd by_ 5 (by omega)
      obtain ⟨M5, hM5⟩ : ∃ x, modV by_ 5 = x := ⟨_, rfl⟩
      have HMod : Hid (∀ W, Calls Try.prog 12 #[.int .i64 by_, .int .i64 5] W fun e w' => e = .returned (.int .i64 M5) ∧ w' = W) := Lib.hid (fun W => by have := mod_any by_ 5 W ⟨hy1, hy2⟩ (by omega); rw [hM5] at this; exact this.mono fun _ _ ⟨h1, h2⟩ => ⟨h1, h2.symm⟩)
      rw [hM5] at hm5
      clear hM5
      have HZ3 := Lib.hid (HZ2.out.below (Below.drew (Below.refl _ _)))
      have ar0 := cell_of_row wo2.drew w.heap.size 0 _ _ _ HZ3.out.raw; have ar1 := cell_of_row wo2.drew w.heap.size 1 _ _ _ HZ3.out.raw; have ar2 := cell_of_row wo2.drew w.heap.size 2 _ _ _ HZ3.out.raw; have ar3 := cell_of_row wo2.drew w.heap.size 3 _ _ _ HZ3.out.raw; have ar4 := cell_of_row wo2.drew w.heap.size 4 _ _ _ HZ3.out.raw
      have hbk := LotsC.of (q := q) (d := dd) (u := .slice A1 m a1) (v := .slice B1 m b1) (t := 32) HZ3.out.bL
      have a0 := hbk.c0; have a1' := hbk.c1; have a2' := hbk.c2; have a3 := hbk.c3; have a4 := hbk.c4; clear hbk
      go_region_held3 (fun w' => w'.cell? ⟨L, 0, none⟩ = some (.int .i64 dd.st) ∧ w'.cell? ⟨L, 1, none⟩ = some (.slice q.a1 dd.se.length q.c1) ∧ w'.cell? ⟨L, 2, none⟩ = some (.slice q.a2 dd.sd.length q.c2) ∧ w'.cell? ⟨L, 3, none⟩ = some (.slice q.a3 dd.sx.length q.c3) ∧ w'.cell? ⟨L, 4, none⟩ = some (.slice q.a4 dd.rv.length q.c4) ∧ w'.cell? ⟨w.heap.size, 0, none⟩ = some (.int .i64 d.st) ∧ w'.cell? ⟨w.heap.size, 1, none⟩ = some (.slice p.a1 d.se.length p.c1) ∧ w'.cell? ⟨w.heap.size, 2, none⟩ = some (.slice p.a2 d.sd.length p.c2) ∧ w'.cell? ⟨w.heap.size, 3, none⟩ = some (.slice p.a3 d.sx.length p.c3) ∧ w'.cell? ⟨w.heap.size, 4, none⟩ = some (.slice p.a4 d.rv.length p.c4)) (first | with_reducible exact ⟨a0, a1', a2', a3, a4, ar0, ar1, ar2, ar3, ar4⟩ | go_keep | ((repeat' apply And.intro) <;> go_keep))
        (first
          | (go_at_call 14
             (with_reducible refine (spoilt_any g _ by_ _ HZ3.out.tp ⟨hy1, hy2⟩).mono ?_)
             rintro e w4 ⟨q1, d1, r4, rfl, hown4, hs4, ht4, hg4⟩
             have Hown4 := Lib.hid hown4
             have Hs4 := Lib.hid hs4
             have HZ4 := Lib.hid (HZ3.out.tape hg4 ht4)
             have hgs4 : g < wo2.drew.heap.size := by have := HZ3.out.gG; have := HZ3.out.GL; have := HZ3.out.LW; omega
             have br0 := cell_of_row w4 w.heap.size 0 _ _ _ HZ4.out.raw; have br1 := cell_of_row w4 w.heap.size 1 _ _ _ HZ4.out.raw; have br2 := cell_of_row w4 w.heap.size 2 _ _ _ HZ4.out.raw; have br3 := cell_of_row w4 w.heap.size 3 _ _ _ HZ4.out.raw; have br4 := cell_of_row w4 w.heap.size 4 _ _ _ HZ4.out.raw
             have hbk := LotsC.of (q := q) (d := dd) (u := .slice A1 m a1) (v := .slice B1 m b1) (t := 32) HZ4.out.bL
             have b0 := hbk.c0; have b1' := hbk.c1; have b2' := hbk.c2; have b3 := hbk.c3; have b4 := hbk.c4; clear hbk
             clear hown4 hs4 ht4 hg4)
          | (go_at_call 12
             (with_reducible refine (HMod.out _).mono ?_)
             rintro e wm ⟨rfl, rfl⟩)
          | (go_at_call 14
             refine (spoilt_any g _ M5 _ HZ4.out.tp (by omega)).mono ?_
             rintro e w5 ⟨q2, d2, r5, rfl, hown5, hs5, ht5, hg5⟩
             have Hown5 := Lib.hid hown5
             have Hs5 := Lib.hid hs5
             have HZ5 := Lib.hid (HZ4.out.tape hg5 ht5)
             have Hown45 := Lib.hid (Hown4.out.old hg5 hgs4)
             have cr0 := cell_of_row w5 w.heap.size 0 _ _ _ HZ5.out.raw; have cr1 := cell_of_row w5 w.heap.size 1 _ _ _ HZ5.out.raw; have cr2 := cell_of_row w5 w.heap.size 2 _ _ _ HZ5.out.raw; have cr3 := cell_of_row w5 w.heap.size 3 _ _ _ HZ5.out.raw; have cr4 := cell_of_row w5 w.heap.size 4 _ _ _ HZ5.out.raw
             have hbk := LotsC.of (q := q) (d := dd) (u := .slice A1 m a1) (v := .slice B1 m b1) (t := 32) HZ5.out.bL
             have c0 := hbk.c0; have c1' := hbk.c1; have c2' := hbk.c2; have c3 := hbk.c3; have c4 := hbk.c4; clear hbk
             clear hown5 hs5 ht5 hg5)
          | fail)
      go_wp2
      have hrow := heap_alloc_new w5 (.cells #[.int .i64 dd.st, .slice q.a1 dd.se.length q.c1, .slice q.a2 dd.sd.length q.c2, .slice q.a3 dd.sx.length q.c3, .slice q.a4 dd.rv.length q.c4, .int .i64 d1.st, .slice q1.a1 d1.se.length q1.c1, .slice q1.a2 d1.sd.length q1.c2, .slice q1.a3 d1.sx.length q1.c3, .slice q1.a4 d1.rv.length q1.c4, .int .i64 d2.st, .slice q2.a1 d2.se.length q2.c1, .slice q2.a2 d2.sd.length q2.c2, .slice q2.a3 d2.sx.length q2.c3, .slice q2.a4 d2.rv.length q2.c4, .int .i64 d.st, .slice p.a1 d.se.length p.c1, .slice p.a2 d.sd.length p.c2, .slice p.a3 d.sx.length p.c3, .slice p.a4 d.rv.length p.c4] 26)
      have Hb6 : Hid (Below w5.heap.size w5 (w5.alloc (.cells #[.int .i64 dd.st, .slice q.a1 dd.se.length q.c1, .slice q.a2 dd.sd.length q.c2, .slice q.a3 dd.sx.length q.c3, .slice q.a4 dd.rv.length q.c4, .int .i64 d1.st, .slice q1.a1 d1.se.length q1.c1, .slice q1.a2 d1.sd.length q1.c2, .slice q1.a3 d1.sx.length q1.c3, .slice q1.a4 d1.rv.length q1.c4, .int .i64 d2.st, .slice q2.a1 d2.se.length q2.c1, .slice q2.a2 d2.sd.length q2.c2, .slice q2.a3 d2.sx.length q2.c3, .slice q2.a4 d2.rv.length q2.c4, .int .i64 d.st, .slice p.a1 d.se.length p.c1, .slice p.a2 d.sd.length p.c2, .slice p.a3 d.sx.length p.c3, .slice p.a4 d.rv.length p.c4] 26))) := Lib.hid (by repeat' (first | with_reducible exact Below.refl _ _ | with_reducible refine below_drewN ?_ _ | with_reducible refine Below.drew ?_ | with_reducible refine Below.alloc ?_ ?_ _ | with_reducible refine Below.setCell ?_ ?_ _ | with_reducible refine Below.trans ?_ (Below.mono (by with_reducible assumption) ?_) | (simp; done) | (simp; omega) | omega))
      have HB6 : Hid (Below w.heap.size w (w5.alloc (.cells #[.int .i64 dd.st, .slice q.a1 dd.se.length q.c1, .slice q.a2 dd.sd.length q.c2, .slice q.a3 dd.sx.length q.c3, .slice q.a4 dd.rv.length q.c4, .int .i64 d1.st, .slice q1.a1 d1.se.length q1.c1, .slice q1.a2 d1.sd.length q1.c2, .slice q1.a3 d1.sx.length q1.c3, .slice q1.a4 d1.rv.length q1.c4, .int .i64 d2.st, .slice q2.a1 d2.se.length q2.c1, .slice q2.a2 d2.sd.length q2.c2, .slice q2.a3 d2.sx.length q2.c3, .slice q2.a4 d2.rv.length q2.c4, .int .i64 d.st, .slice p.a1 d.se.length p.c1, .slice p.a2 d.sd.length p.c2, .slice p.a3 d.sx.length p.c3, .slice p.a4 d.rv.length p.c4] 26))) := Lib.hid (HZ5.out.bel.trans (Hb6.out.mono HZ5.out.bel.size))
      obtain ⟨BS, hBS⟩ : ∃ B, w5.heap.size = B := ⟨_, rfl⟩
      have hs6 : BS < (w5.alloc (.cells #[.int .i64 dd.st, .slice q.a1 dd.se.length q.c1, .slice q.a2 dd.sd.length q.c2, .slice q.a3 dd.sx.length q.c3, .slice q.a4 dd.rv.length q.c4, .int .i64 d1.st, .slice q1.a1 d1.se.length q1.c1, .slice q1.a2 d1.sd.length q1.c2, .slice q1.a3 d1.sx.length q1.c3, .slice q1.a4 d1.rv.length q1.c4, .int .i64 d2.st, .slice q2.a1 d2.se.length q2.c1, .slice q2.a2 d2.sd.length q2.c2, .slice q2.a3 d2.sx.length q2.c3, .slice q2.a4 d2.rv.length q2.c4, .int .i64 d.st, .slice p.a1 d.se.length p.c1, .slice p.a2 d.sd.length p.c2, .slice p.a3 d.sx.length p.c3, .slice p.a4 d.rv.length p.c4] 26)).heap.size := by rw [← hBS]; simp
      rw [hBS] at hrow
      have HR : Hid (∀ j, j < 4 → At4 (w5.alloc (.cells #[.int .i64 dd.st, .slice q.a1 dd.se.length q.c1, .slice q.a2 dd.sd.length q.c2, .slice q.a3 dd.sx.length q.c3, .slice q.a4 dd.rv.length q.c4, .int .i64 d1.st, .slice q1.a1 d1.se.length q1.c1, .slice q1.a2 d1.sd.length q1.c2, .slice q1.a3 d1.sx.length q1.c3, .slice q1.a4 d1.rv.length q1.c4, .int .i64 d2.st, .slice q2.a1 d2.se.length q2.c1, .slice q2.a2 d2.sd.length q2.c2, .slice q2.a3 d2.sx.length q2.c3, .slice q2.a4 d2.rv.length q2.c4, .int .i64 d.st, .slice p.a1 d.se.length p.c1, .slice p.a2 d.sd.length p.c2, .slice p.a3 d.sx.length p.c3, .slice p.a4 d.rv.length p.c4] 26)) BS j) := Lib.hid (fun j hj => by
        rcases (show j = 0 ∨ j = 1 ∨ j = 2 ∨ j = 3 by omega) with rfl | rfl | rfl | rfl
        · exact ⟨q, dd, cell_of_row _ BS 0 _ _ _ hrow, cell_of_row _ BS 1 _ _ _ hrow, cell_of_row _ BS 2 _ _ _ hrow, cell_of_row _ BS 3 _ _ _ hrow, cell_of_row _ BS 4 _ _ _ hrow, HZ5.out.dr.at.below Hb6.out, Hlen.out.small hm4⟩
        · exact ⟨q1, d1, cell_of_row _ BS 5 _ _ _ hrow, cell_of_row _ BS 6 _ _ _ hrow, cell_of_row _ BS 7 _ _ _ hrow, cell_of_row _ BS 8 _ _ _ hrow, cell_of_row _ BS 9 _ _ _ hrow, Hown45.out.at.below Hb6.out, Hs4.out⟩
        · exact ⟨q2, d2, cell_of_row _ BS 10 _ _ _ hrow, cell_of_row _ BS 11 _ _ _ hrow, cell_of_row _ BS 12 _ _ _ hrow, cell_of_row _ BS 13 _ _ _ hrow, cell_of_row _ BS 14 _ _ _ hrow, Hown5.out.at.below Hb6.out, Hs5.out⟩
        · exact ⟨p, d, cell_of_row _ BS 15 _ _ _ hrow, cell_of_row _ BS 16 _ _ _ hrow, cell_of_row _ BS 17 _ _ _ hrow, cell_of_row _ BS 18 _ _ _ hrow, cell_of_row _ BS 19 _ _ _ hrow, (HD2.out.below HZ5.out.bel).below Hb6.out, hsm.out⟩)
      rw [hBS]
      generalize w5.alloc (.cells #[.int .i64 dd.st, .slice q.a1 dd.se.length q.c1, .slice q.a2 dd.sd.length q.c2, .slice q.a3 dd.sx.length q.c3, .slice q.a4 dd.rv.length q.c4, .int .i64 d1.st, .slice q1.a1 d1.se.length q1.c1, .slice q1.a2 d1.sd.length q1.c2, .slice q1.a3 d1.sx.length q1.c3, .slice q1.a4 d1.rv.length q1.c4, .int .i64 d2.st, .slice q2.a1 d2.se.length q2.c1, .slice q2.a2 d2.sd.length q2.c2, .slice q2.a3 d2.sx.length q2.c3, .slice q2.a4 d2.rv.length q2.c4, .int .i64 d.st, .slice p.a1 d.se.length p.c1, .slice p.a2 d.sd.length p.c2, .slice p.a3 d.sx.length p.c3, .slice p.a4 d.rv.length p.c4] 26) = w6 at *
      have hsw6 := HB6.out.size
      clear hrow Hb6 hBS HZ2 HZ3 HZ4 HZ5 Hown4 Hown5 Hown45 Hs4 Hs5 HMod hgs4 HD2 hsm Hlen Hb0 Hraw hs0 a0 a1' a2' a3 a4 ar0 ar1 ar2 ar3 ar4 b0 b1' b2' b3 b4 br0 br1 br2 br3 br4 c0 c1' c2' c3 c4 cr0 cr1 cr2 cr3 cr4
      go_loopw [100] (fun i wr => ∃ j : Nat, j ≤ 4 ∧ i = .int .i64 (j : Int) ∧ Below w6.heap.size w6 wr) (fun i _ => (4 - intOf i).toNat)
      case atStart => exact ⟨0, by omega, rfl, Below.refl _ _⟩
      case round =>
        obtain ⟨j, hj, rfl, hbw⟩ := hrel
        have Hbw := Lib.hid hbw
        have hsw := hbw.size
        clear hbw
        by_cases hj4 : j < 4
        · have hj4' : (j : Int) < 4 := by omega
          obtain ⟨q, d, g0, g1, g2, g3, g4, hat, hsd⟩ := HR.out j hj4
          have c0 := (Hbw.out.cell (p := ⟨BS, j * 5, none⟩) hs6).trans g0
          have c1 := (Hbw.out.cell (p := ⟨BS, j * 5 + 1, none⟩) hs6).trans g1
          have c2 := (Hbw.out.cell (p := ⟨BS, j * 5 + 2, none⟩) hs6).trans g2
          have c3 := (Hbw.out.cell (p := ⟨BS, j * 5 + 3, none⟩) hs6).trans g3
          have c4 := (Hbw.out.cell (p := ⟨BS, j * 5 + 4, none⟩) hs6).trans g4
          have Hat := Lib.hid (hat.below Hbw.out)
          have Hsd := Lib.hid hsd
          clear g0 g1 g2 g3 g4 hat hsd
          go_upto_region 12 with fail
          clear c0 c1 c2 c3 c4
          have hT := heap_alloc_new wr (.cells #[.int .i64 d.st, .slice q.a1 d.se.length q.c1, .slice q.a2 d.sd.length q.c2, .slice q.a3 d.sx.length q.c3, .slice q.a4 d.rv.length q.c4] 26)
          have HbT : Hid (Below wr.heap.size wr (wr.alloc (.cells #[.int .i64 d.st, .slice q.a1 d.se.length q.c1, .slice q.a2 d.sd.length q.c2, .slice q.a3 d.sx.length q.c3, .slice q.a4 d.rv.length q.c4] 26))) := Lib.hid (by repeat' (first | with_reducible exact Below.refl _ _ | with_reducible refine below_drewN ?_ _ | with_reducible refine Below.drew ?_ | with_reducible refine Below.alloc ?_ ?_ _ | with_reducible refine Below.setCell ?_ ?_ _ | with_reducible refine Below.trans ?_ (Below.mono (by with_reducible assumption) ?_) | (simp; done) | (simp; omega) | omega))
          have HaT := Lib.hid (Hat.out.below HbT.out)
          obtain ⟨T, hTe⟩ : ∃ T, wr.heap.size = T := ⟨_, rfl⟩
          have hTlt : T < (wr.alloc (.cells #[.int .i64 d.st, .slice q.a1 d.se.length q.c1, .slice q.a2 d.sd.length q.c2, .slice q.a3 d.sx.length q.c3, .slice q.a4 d.rv.length q.c4] 26)).heap.size := by rw [← hTe]; simp
          rw [hTe] at hT ⊢
          generalize wr.alloc (.cells #[.int .i64 d.st, .slice q.a1 d.se.length q.c1, .slice q.a2 d.sd.length q.c2, .slice q.a3 d.sx.length q.c3, .slice q.a4 d.rv.length q.c4] 26) = wT at *
          have HbT2 : Hid (Below w6.heap.size w6 wT) := Lib.hid (Hbw.out.trans (HbT.out.mono hsw))
          have HT := Lib.hid hT
          have hswT := HbT2.out.size
          clear hT hTe Hat HbT
          obtain ⟨ck, hck⟩ : ∃ x, checkD d = x := ⟨_, rfl⟩
          have Hck : Hid (∀ W, Below wT.heap.size wT W → Calls Try.prog 15 #[.agg #[.int .i64 d.st, .slice q.a1 d.se.length q.c1, .slice q.a2 d.sd.length q.c2, .slice q.a3 d.sx.length q.c3, .slice q.a4 d.rv.length q.c4]] W fun e w' => e = .returned (.int .i64 ck) ∧ Below W.heap.size W w') := Lib.hid (fun W hW => by have := check_any q d W (HaT.out.below hW); rw [hck] at this; exact this)
          have HckR : Hid (∀ W, Below wT.heap.size wT W → Calls Try.prog 16 #[.agg #[.int .i64 d.st, .slice q.a1 d.se.length q.c1, .slice q.a2 d.sd.length q.c2, .slice q.a3 d.sx.length q.c3, .slice q.a4 d.rv.length q.c4]] W fun e w' => e = .returned (.int .i64 ck) ∧ Below W.heap.size W w') := Lib.hid (fun W hW => by have := checkR_any q d W (HaT.out.below hW); rw [hck] at this; exact this)
          obtain ⟨⟨d1, e1⟩, hx1⟩ : ∃ x, commitD d K a = x := ⟨_, rfl⟩
          have Hf1 : Hid (∀ W, DrAt W q d → Calls Try.prog 17 #[.agg #[.int .i64 d.st, .slice q.a1 d.se.length q.c1, .slice q.a2 d.sd.length q.c2, .slice q.a3 d.sx.length q.c3, .slice q.a4 d.rv.length q.c4], .int .i64 K, .int .u64 a] W (DrEPost W (d1, e1))) := Lib.hid (fun W hW => by have := commit_any q d K a W hW Hsd.out; rw [hx1] at this; exact this)
          have HfR1 : Hid (∀ W, DrAt W q d → Calls Try.prog 18 #[.agg #[.int .i64 d.st, .slice q.a1 d.se.length q.c1, .slice q.a2 d.sd.length q.c2, .slice q.a3 d.sx.length q.c3, .slice q.a4 d.rv.length q.c4], .int .i64 K, .int .u64 a] W (DrRPost W q d (d1, e1))) := Lib.hid (fun W hW => by have := commitR_any q d K a W hW Hsd.out; rw [hx1] at this; exact this)
          have hs1 : Hid d1.small := Lib.hid (by have := small_commit Hsd.out K a; rw [hx1] at this; exact this)
          obtain ⟨⟨d2, e2⟩, hx2⟩ : ∃ x, nextD d 1 = x := ⟨_, rfl⟩
          have Hf2 : Hid (∀ W, DrAt W q d → Calls Try.prog 20 #[.agg #[.int .i64 d.st, .slice q.a1 d.se.length q.c1, .slice q.a2 d.sd.length q.c2, .slice q.a3 d.sx.length q.c3, .slice q.a4 d.rv.length q.c4]] W (DrEPost W (d2, e2))) := Lib.hid (fun W hW => by have := close_any q d W hW Hsd.out; rw [hx2] at this; exact this)
          have HfR2 : Hid (∀ W, DrAt W q d → Calls Try.prog 21 #[.agg #[.int .i64 d.st, .slice q.a1 d.se.length q.c1, .slice q.a2 d.sd.length q.c2, .slice q.a3 d.sx.length q.c3, .slice q.a4 d.rv.length q.c4]] W (DrRPost W q d (d2, e2))) := Lib.hid (fun W hW => by have := closeR_any q d W hW Hsd.out; rw [hx2] at this; exact this)
          have hs2 : Hid d2.small := Lib.hid (by have := small_next Hsd.out 1; rw [hx2] at this; exact this)
          obtain ⟨⟨d3, e3⟩, hx3⟩ : ∃ x, revealD d K sa ta = x := ⟨_, rfl⟩
          have Hf3 : Hid (∀ W, DrAt W q d → Calls Try.prog 22 #[.agg #[.int .i64 d.st, .slice q.a1 d.se.length q.c1, .slice q.a2 d.sd.length q.c2, .slice q.a3 d.sx.length q.c3, .slice q.a4 d.rv.length q.c4], .int .i64 K, .int .u64 sa, .int .u64 ta] W (DrEPost W (d3, e3))) := Lib.hid (fun W hW => by have := reveal_any q d K sa ta W hW Hsd.out; rw [hx3] at this; exact this)
          have HfR3 : Hid (∀ W, DrAt W q d → Calls Try.prog 23 #[.agg #[.int .i64 d.st, .slice q.a1 d.se.length q.c1, .slice q.a2 d.sd.length q.c2, .slice q.a3 d.sx.length q.c3, .slice q.a4 d.rv.length q.c4], .int .i64 K, .int .u64 sa, .int .u64 ta] W (DrRPost W q d (d3, e3))) := Lib.hid (fun W hW => by have := revealR_any q d K sa ta W hW Hsd.out; rw [hx3] at this; exact this)
          have hs3 : Hid d3.small := Lib.hid (by have := small_reveal Hsd.out K sa ta; rw [hx3] at this; exact this)
          obtain ⟨⟨d4, e4⟩, hx4⟩ : ∃ x, nextD d 2 = x := ⟨_, rfl⟩
          have Hf4 : Hid (∀ W, DrAt W q d → Calls Try.prog 24 #[.agg #[.int .i64 d.st, .slice q.a1 d.se.length q.c1, .slice q.a2 d.sd.length q.c2, .slice q.a3 d.sx.length q.c3, .slice q.a4 d.rv.length q.c4]] W (DrEPost W (d4, e4))) := Lib.hid (fun W hW => by have := finish_any q d W hW Hsd.out; rw [hx4] at this; exact this)
          have HfR4 : Hid (∀ W, DrAt W q d → Calls Try.prog 25 #[.agg #[.int .i64 d.st, .slice q.a1 d.se.length q.c1, .slice q.a2 d.sd.length q.c2, .slice q.a3 d.sx.length q.c3, .slice q.a4 d.rv.length q.c4]] W (DrRPost W q d (d4, e4))) := Lib.hid (fun W hW => by have := finishR_any q d W hW Hsd.out; rw [hx4] at this; exact this)
          have hs4 : Hid d4.small := Lib.hid (by have := small_next Hsd.out 2; rw [hx4] at this; exact this)
          clear hck hx1 hx2 hx3 hx4
          have HTd : Hid (wT.drew.heap[T]? = some (.cells #[.int .i64 d.st, .slice q.a1 d.se.length q.c1, .slice q.a2 d.sd.length q.c2, .slice q.a3 d.sx.length q.c3, .slice q.a4 d.rv.length q.c4] 26 (0, 0))) := Lib.hid HT.out
          have hbk := DC.of HTd.out; have p0 := hbk.c0; have p1 := hbk.c1; have p2 := hbk.c2; have p3 := hbk.c3; have p4 := hbk.c4; have pf0 := hbk.f 0; have pf1 := hbk.f 1; have pf2 := hbk.f 2; have pf3 := hbk.f 3; have pf4 := hbk.f 4; clear hbk
          go_region_held3 (fun w' => w'.cell? ⟨T, 0, none⟩ = some (.int .i64 d.st) ∧ w'.cell? ⟨T, 1, none⟩ = some (.slice q.a1 d.se.length q.c1) ∧ w'.cell? ⟨T, 2, none⟩ = some (.slice q.a2 d.sd.length q.c2) ∧ w'.cell? ⟨T, 3, none⟩ = some (.slice q.a3 d.sx.length q.c3) ∧ w'.cell? ⟨T, 4, none⟩ = some (.slice q.a4 d.rv.length q.c4)) (first | with_reducible exact ⟨p0, p1, p2, p3, p4⟩ | go_keep | ((repeat' apply And.intro) <;> go_keep))
            (first
              | (go_at_call 15
                 refine (Hck.out _ (Below.drew (Below.refl _ _))).mono ?_
                 rintro e wa ⟨rfl, hba⟩
                 have Hba : Hid (Below wT.heap.size wT wa) := Lib.hid (show Below wT.heap.size wT wa from (by have hbq := hba; exact (by repeat' (first | with_reducible exact Below.refl _ _ | with_reducible assumption | with_reducible refine below_drewN ?_ _ | with_reducible refine Below.drew ?_ | with_reducible refine Below.alloc ?_ ?_ _ | with_reducible refine Below.setCell ?_ ?_ _ | with_reducible refine Below.trans ?_ (Below.mono (by with_reducible assumption) ?_) | with_reducible refine below_only ?_ (by with_reducible assumption) ?_ ?_ | (simp; done) | (simp; omega) | omega))))
                 have hTa := (Hba.out.block _ hTlt).trans HT.out
                 have hbk := DC.of hTa; have z0 := hbk.c0; have z1 := hbk.c1; have z2 := hbk.c2; have z3 := hbk.c3; have z4 := hbk.c4; have zf0 := hbk.f 0; have zf1 := hbk.f 1; have zf2 := hbk.f 2; have zf3 := hbk.f 3; have zf4 := hbk.f 4; clear hbk
                 have hsa := Hba.out.size
                 clear hba hTa)
              | (go_at_call 16
                 refine (HckR.out _ Hba.out).mono ?_
                 rintro e wb ⟨rfl, hbb⟩
                 have Hbb : Hid (Below wT.heap.size wT wb) := Lib.hid (Hba.out.trans (hbb.mono hsa))
                 have hTb := (Hbb.out.block _ hTlt).trans HT.out
                 have hbk := DC.of hTb; have y0 := hbk.c0; have y1 := hbk.c1; have y2 := hbk.c2; have y3 := hbk.c3; have y4 := hbk.c4; have yf0 := hbk.f 0; have yf1 := hbk.f 1; have yf2 := hbk.f 2; have yf3 := hbk.f 3; have yf4 := hbk.f 4; clear hbk
                 clear hbb hTb)
              | fail)
          clear p0 p1 p2 p3 p4 pf0 pf1 pf2 pf3 pf4
          clear z0 z1 z2 z3 z4 zf0 zf1 zf2 zf3 zf4
          clear Hck HckR Hba HTd hsa
          have hsb := Hbb.out.size
          go_upto_region 15 with (first
            | (go_at_call 17
               refine (Hf1.out _ (HaT.out.below Hbb.out)).mono ?_
               rintro e wc ⟨qa, rfl, hown, hb3⟩
               have Hown := Lib.hid hown
               have Hbc : Hid (Below wT.heap.size wT wc) := Lib.hid (Hbb.out.trans (hb3.mono hsb))
               clear hown hb3)
            | fail)
          clear y0 y1 y2 y3 y4 yf0 yf1 yf2 yf3 yf4
          have hP := heap_alloc_new wc (.cells #[.int .i64 d1.st, .slice qa.a1 d1.se.length qa.c1, .slice qa.a2 d1.sd.length qa.c2, .slice qa.a3 d1.sx.length qa.c3, .slice qa.a4 d1.rv.length qa.c4] 26)
          have HbP : Hid (Below wc.heap.size wc (wc.alloc (.cells #[.int .i64 d1.st, .slice qa.a1 d1.se.length qa.c1, .slice qa.a2 d1.sd.length qa.c2, .slice qa.a3 d1.sx.length qa.c3, .slice qa.a4 d1.rv.length qa.c4] 26))) := Lib.hid (by repeat' (first | with_reducible exact Below.refl _ _ | with_reducible refine below_drewN ?_ _ | with_reducible refine Below.drew ?_ | with_reducible refine Below.alloc ?_ ?_ _ | with_reducible refine Below.setCell ?_ ?_ _ | with_reducible refine Below.trans ?_ (Below.mono (by with_reducible assumption) ?_) | (simp; done) | (simp; omega) | omega))
          obtain ⟨P, hPe⟩ : ∃ P, wc.heap.size = P := ⟨_, rfl⟩
          have hsc := Hbc.out.size
          have hPlt : P < (wc.alloc (.cells #[.int .i64 d1.st, .slice qa.a1 d1.se.length qa.c1, .slice qa.a2 d1.sd.length qa.c2, .slice qa.a3 d1.sx.length qa.c3, .slice qa.a4 d1.rv.length qa.c4] 26)).heap.size := by rw [← hPe]; simp
          have HA1 := Lib.hid (Hown.out.at.below HbP.out)
          have Hbd : Hid (Below wT.heap.size wT (wc.alloc (.cells #[.int .i64 d1.st, .slice qa.a1 d1.se.length qa.c1, .slice qa.a2 d1.sd.length qa.c2, .slice qa.a3 d1.sx.length qa.c3, .slice qa.a4 d1.rv.length qa.c4] 26))) := Lib.hid (Hbc.out.trans (HbP.out.mono hsc))
          rw [hPe] at hP hsc ⊢
          generalize wc.alloc (.cells #[.int .i64 d1.st, .slice qa.a1 d1.se.length qa.c1, .slice qa.a2 d1.sd.length qa.c2, .slice qa.a3 d1.sx.length qa.c3, .slice qa.a4 d1.rv.length qa.c4] 26) = wd at *
          have HP := Lib.hid hP
          have hTd := (Hbd.out.block _ hTlt).trans HT.out
          have hbk := DC.of hTd; have p0 := hbk.c0; have p1 := hbk.c1; have p2 := hbk.c2; have p3 := hbk.c3; have p4 := hbk.c4; have pf0 := hbk.f 0; have pf1 := hbk.f 1; have pf2 := hbk.f 2; have pf3 := hbk.f 3; have pf4 := hbk.f 4; clear hbk
          have hsd := Hbd.out.size
          clear hP hPe HbP Hown Hbc Hbb hTd
          go_upto_region 16 with (first
            | (go_at_call 18
               refine (HfR1.out _ (HaT.out.below Hbd.out)).mono ?_
               rintro e we ⟨qb, rfl, hor, hb3⟩
               have Hor := Lib.hid hor
               have Hb3 := Lib.hid hb3
               clear hor hb3)
            | fail)
          clear p0 p1 p2 p3 p4 pf0 pf1 pf2 pf3 pf4
          have hQ := heap_alloc_new we (.cells #[.int .i64 d1.st, .slice qb.a1 d1.se.length qb.c1, .slice qb.a2 d1.sd.length qb.c2, .slice qb.a3 d1.sx.length qb.c3, .slice qb.a4 d1.rv.length qb.c4] 26)
          have HbQ : Hid (Below we.heap.size we (we.alloc (.cells #[.int .i64 d1.st, .slice qb.a1 d1.se.length qb.c1, .slice qb.a2 d1.sd.length qb.c2, .slice qb.a3 d1.sx.length qb.c3, .slice qb.a4 d1.rv.length qb.c4] 26))) := Lib.hid (by repeat' (first | with_reducible exact Below.refl _ _ | with_reducible refine below_drewN ?_ _ | with_reducible refine Below.drew ?_ | with_reducible refine Below.alloc ?_ ?_ _ | with_reducible refine Below.setCell ?_ ?_ _ | with_reducible refine Below.trans ?_ (Below.mono (by with_reducible assumption) ?_) | (simp; done) | (simp; omega) | omega))
          have hse := Hb3.out.size
          have HB0 : Hid (TB wT (we.alloc (.cells #[.int .i64 d1.st, .slice qb.a1 d1.se.length qb.c1, .slice qb.a2 d1.sd.length qb.c2, .slice qb.a3 d1.sx.length qb.c3, .slice qb.a4 d1.rv.length qb.c4] 26)) T P we.heap.size q d qa d1 qb d1) := Lib.hid (by
            have Hbe : Below wd.heap.size wd (we.alloc (.cells #[.int .i64 d1.st, .slice qb.a1 d1.se.length qb.c1, .slice qb.a2 d1.sd.length qb.c2, .slice qb.a3 d1.sx.length qb.c3, .slice qb.a4 d1.rv.length qb.c4] 26)) := Hb3.out.trans (HbQ.out.mono hse)
            exact ⟨(Hbe.block _ (by omega)).trans ((Hbd.out.block _ hTlt).trans HT.out), (Hbe.block _ hPlt).trans HP.out, hQ, HaT.out, Hbd.out.trans (Hbe.mono hsd), hTlt, hsc, by omega, by simp⟩)
          have A1 := Lib.hid ((HA1.out.below Hb3.out).below HbQ.out)
          have A2 : Hid (DrAt (we.alloc (.cells #[.int .i64 d1.st, .slice qb.a1 d1.se.length qb.c1, .slice qb.a2 d1.sd.length qb.c2, .slice qb.a3 d1.sx.length qb.c3, .slice qb.a4 d1.rv.length qb.c4] 26)) qb d1) := Lib.hid (by
            rcases Hor.out with ⟨e1', e2'⟩ | ho
            · have h := HB0.out.at
              have e3' : d1 = d := e2'
              rw [← e1', ← e3'] at h
              exact h
            · exact ho.at.below HbQ.out)
          obtain ⟨Q, hQe⟩ : ∃ Q, we.heap.size = Q := ⟨_, rfl⟩
          rw [hQe] at HB0 ⊢
          generalize we.alloc (.cells #[.int .i64 d1.st, .slice qb.a1 d1.se.length qb.c1, .slice qb.a2 d1.sd.length qb.c2, .slice qb.a3 d1.sx.length qb.c3, .slice qb.a4 d1.rv.length qb.c4] 26) = wf at *
          clear hQ HbQ hQe Hor Hb3 HA1 HP Hbd HT hse hsd hsc hPlt
          have hbk := DC.of HB0.out.bP; have p0 := hbk.c0; have p1 := hbk.c1; have p2 := hbk.c2; have p3 := hbk.c3; have p4 := hbk.c4; have pf0 := hbk.f 0; have pf1 := hbk.f 1; have pf2 := hbk.f 2; have pf3 := hbk.f 3; have pf4 := hbk.f 4; clear hbk
          have hbk := DC.of HB0.out.bQ; have z0 := hbk.c0; have z1 := hbk.c1; have z2 := hbk.c2; have z3 := hbk.c3; have z4 := hbk.c4; have zf0 := hbk.f 0; have zf1 := hbk.f 1; have zf2 := hbk.f 2; have zf3 := hbk.f 3; have zf4 := hbk.f 4; clear hbk
          go_upto_region 18 with (first
            | (go_at_call 19
               refine (same_true qa qb d1 _ A1.out A2.out hs1.out).mono ?_
               rintro e wf1 ⟨rfl, hb3⟩
               have HB := Lib.hid (HB0.out.below hb3)
               clear hb3)
            | fail)
          clear p0 p1 p2 p3 p4 pf0 pf1 pf2 pf3 pf4
          clear z0 z1 z2 z3 z4 zf0 zf1 zf2 zf3 zf4
          clear HB0 A1 A2
          have hbk := DC.of HB.out.bT; have p0 := hbk.c0; have p1 := hbk.c1; have p2 := hbk.c2; have p3 := hbk.c3; have p4 := hbk.c4; have pf0 := hbk.f 0; have pf1 := hbk.f 1; have pf2 := hbk.f 2; have pf3 := hbk.f 3; have pf4 := hbk.f 4; clear hbk
          have hQW := HB.out.QW
          have hPQ := HB.out.PQ
          go_upto_region 19 with (first
            | (go_at_call 20
               refine (Hf2.out _ HB.out.at).mono ?_
               rintro e wa2 ⟨qa, rfl, hown, hb3⟩
               have Hown := Lib.hid hown
               have HBa := Lib.hid (HB.out.below hb3)
               have hbk := DC.of HBa.out.bP; have z0 := hbk.c0; have z1 := hbk.c1; have z2 := hbk.c2; have z3 := hbk.c3; have z4 := hbk.c4; have zf0 := hbk.f 0; have zf1 := hbk.f 1; have zf2 := hbk.f 2; have zf3 := hbk.f 3; have zf4 := hbk.f 4; clear hbk
               clear hown hb3)
            | fail)
          have HB1 := Lib.hid (HBa.out.putP qa d2)
          have Own1 := Lib.hid (Hown.out.old (box5_only (x := .int .i64 d2.st) (y := .slice qa.a1 d2.se.length qa.c1) (z := .slice qa.a2 d2.sd.length qa.c2) (u := .slice qa.a3 d2.sx.length qa.c3) (v := .slice qa.a4 d2.rv.length qa.c4)) (show P < wf1.heap.size by omega))
          clear p0 p1 p2 p3 p4 pf0 pf1 pf2 pf3 pf4
          clear z0 z1 z2 z3 z4 zf0 zf1 zf2 zf3 zf4
          generalize (((((wa2.setCell ⟨P, 0, none⟩ (.int .i64 d2.st)).setCell ⟨P, 1, none⟩ (.slice qa.a1 d2.se.length qa.c1)).setCell ⟨P, 2, none⟩ (.slice qa.a2 d2.sd.length qa.c2)).setCell ⟨P, 3, none⟩ (.slice qa.a3 d2.sx.length qa.c3)).setCell ⟨P, 4, none⟩ (.slice qa.a4 d2.rv.length qa.c4)) = wb2 at *
          clear HB HBa Hown
          have hbk := DC.of HB1.out.bT; have p0 := hbk.c0; have p1 := hbk.c1; have p2 := hbk.c2; have p3 := hbk.c3; have p4 := hbk.c4; have pf0 := hbk.f 0; have pf1 := hbk.f 1; have pf2 := hbk.f 2; have pf3 := hbk.f 3; have pf4 := hbk.f 4; clear hbk
          have hQWb := HB1.out.QW
          go_upto_region 20 with (first
            | (go_at_call 21
               refine (HfR2.out _ HB1.out.at).mono ?_
               rintro e wc2 ⟨qb, rfl, hor, hb3⟩
               have Hor := Lib.hid hor
               have HBc := Lib.hid (HB1.out.below hb3)
               have Own2 := Lib.hid (Own1.out.below hb3)
               have hbk := DC.of HBc.out.bQ; have z0 := hbk.c0; have z1 := hbk.c1; have z2 := hbk.c2; have z3 := hbk.c3; have z4 := hbk.c4; have zf0 := hbk.f 0; have zf1 := hbk.f 1; have zf2 := hbk.f 2; have zf3 := hbk.f 3; have zf4 := hbk.f 4; clear hbk
               clear hor hb3)
            | fail)
          have HB2 := Lib.hid (HBc.out.putQ qb d2)
          have A1 := Lib.hid (Own2.out.old (box5_only (x := .int .i64 d2.st) (y := .slice qb.a1 d2.se.length qb.c1) (z := .slice qb.a2 d2.sd.length qb.c2) (u := .slice qb.a3 d2.sx.length qb.c3) (v := .slice qb.a4 d2.rv.length qb.c4)) (show Q < wf1.heap.size by omega)).at
          have A2 : Hid (DrAt (((((wc2.setCell ⟨Q, 0, none⟩ (.int .i64 d2.st)).setCell ⟨Q, 1, none⟩ (.slice qb.a1 d2.se.length qb.c1)).setCell ⟨Q, 2, none⟩ (.slice qb.a2 d2.sd.length qb.c2)).setCell ⟨Q, 3, none⟩ (.slice qb.a3 d2.sx.length qb.c3)).setCell ⟨Q, 4, none⟩ (.slice qb.a4 d2.rv.length qb.c4)) qb d2) := Lib.hid (by
            rcases Hor.out with ⟨e1, e2⟩ | ho
            · have h := HB2.out.at
              have e2' : d2 = d := e2
              rw [← e1, ← e2'] at h
              exact h
            · exact (ho.old box5_only hQWb).at)
          clear p0 p1 p2 p3 p4 pf0 pf1 pf2 pf3 pf4
          clear z0 z1 z2 z3 z4 zf0 zf1 zf2 zf3 zf4
          generalize (((((wc2.setCell ⟨Q, 0, none⟩ (.int .i64 d2.st)).setCell ⟨Q, 1, none⟩ (.slice qb.a1 d2.se.length qb.c1)).setCell ⟨Q, 2, none⟩ (.slice qb.a2 d2.sd.length qb.c2)).setCell ⟨Q, 3, none⟩ (.slice qb.a3 d2.sx.length qb.c3)).setCell ⟨Q, 4, none⟩ (.slice qb.a4 d2.rv.length qb.c4)) = we2 at *
          clear HB1 HBc Own1 Own2 Hor hQW hPQ hQWb
          have hbk := DC.of HB2.out.bP; have p0 := hbk.c0; have p1 := hbk.c1; have p2 := hbk.c2; have p3 := hbk.c3; have p4 := hbk.c4; have pf0 := hbk.f 0; have pf1 := hbk.f 1; have pf2 := hbk.f 2; have pf3 := hbk.f 3; have pf4 := hbk.f 4; clear hbk
          have hbk := DC.of HB2.out.bQ; have z0 := hbk.c0; have z1 := hbk.c1; have z2 := hbk.c2; have z3 := hbk.c3; have z4 := hbk.c4; have zf0 := hbk.f 0; have zf1 := hbk.f 1; have zf2 := hbk.f 2; have zf3 := hbk.f 3; have zf4 := hbk.f 4; clear hbk
          go_upto_region 22 with (first
            | (go_at_call 19
               refine (same_true qa qb d2 _ A1.out A2.out hs2.out).mono ?_
               rintro e wf2 ⟨rfl, hb3⟩
               have HB := Lib.hid (HB2.out.below hb3)
               clear hb3)
            | fail)
          clear p0 p1 p2 p3 p4 pf0 pf1 pf2 pf3 pf4
          clear z0 z1 z2 z3 z4 zf0 zf1 zf2 zf3 zf4
          clear HB2 A1 A2
          have hbk := DC.of HB.out.bT; have p0 := hbk.c0; have p1 := hbk.c1; have p2 := hbk.c2; have p3 := hbk.c3; have p4 := hbk.c4; have pf0 := hbk.f 0; have pf1 := hbk.f 1; have pf2 := hbk.f 2; have pf3 := hbk.f 3; have pf4 := hbk.f 4; clear hbk
          have hQW := HB.out.QW
          have hPQ := HB.out.PQ
          go_upto_region 23 with (first
            | (go_at_call 22
               refine (Hf3.out _ HB.out.at).mono ?_
               rintro e wa3 ⟨qa, rfl, hown, hb3⟩
               have Hown := Lib.hid hown
               have HBa := Lib.hid (HB.out.below hb3)
               have hbk := DC.of HBa.out.bP; have z0 := hbk.c0; have z1 := hbk.c1; have z2 := hbk.c2; have z3 := hbk.c3; have z4 := hbk.c4; have zf0 := hbk.f 0; have zf1 := hbk.f 1; have zf2 := hbk.f 2; have zf3 := hbk.f 3; have zf4 := hbk.f 4; clear hbk
               clear hown hb3)
            | fail)
          have HB1 := Lib.hid (HBa.out.putP qa d3)
          have Own1 := Lib.hid (Hown.out.old (box5_only (x := .int .i64 d3.st) (y := .slice qa.a1 d3.se.length qa.c1) (z := .slice qa.a2 d3.sd.length qa.c2) (u := .slice qa.a3 d3.sx.length qa.c3) (v := .slice qa.a4 d3.rv.length qa.c4)) (show P < wf2.heap.size by omega))
          clear p0 p1 p2 p3 p4 pf0 pf1 pf2 pf3 pf4
          clear z0 z1 z2 z3 z4 zf0 zf1 zf2 zf3 zf4
          generalize (((((wa3.setCell ⟨P, 0, none⟩ (.int .i64 d3.st)).setCell ⟨P, 1, none⟩ (.slice qa.a1 d3.se.length qa.c1)).setCell ⟨P, 2, none⟩ (.slice qa.a2 d3.sd.length qa.c2)).setCell ⟨P, 3, none⟩ (.slice qa.a3 d3.sx.length qa.c3)).setCell ⟨P, 4, none⟩ (.slice qa.a4 d3.rv.length qa.c4)) = wb3 at *
          clear HB HBa Hown
          have hbk := DC.of HB1.out.bT; have p0 := hbk.c0; have p1 := hbk.c1; have p2 := hbk.c2; have p3 := hbk.c3; have p4 := hbk.c4; have pf0 := hbk.f 0; have pf1 := hbk.f 1; have pf2 := hbk.f 2; have pf3 := hbk.f 3; have pf4 := hbk.f 4; clear hbk
          have hQWb := HB1.out.QW
          go_upto_region 24 with (first
            | (go_at_call 23
               refine (HfR3.out _ HB1.out.at).mono ?_
               rintro e wc3 ⟨qb, rfl, hor, hb3⟩
               have Hor := Lib.hid hor
               have HBc := Lib.hid (HB1.out.below hb3)
               have Own2 := Lib.hid (Own1.out.below hb3)
               have hbk := DC.of HBc.out.bQ; have z0 := hbk.c0; have z1 := hbk.c1; have z2 := hbk.c2; have z3 := hbk.c3; have z4 := hbk.c4; have zf0 := hbk.f 0; have zf1 := hbk.f 1; have zf2 := hbk.f 2; have zf3 := hbk.f 3; have zf4 := hbk.f 4; clear hbk
               clear hor hb3)
            | fail)
          have HB2 := Lib.hid (HBc.out.putQ qb d3)
          have A1 := Lib.hid (Own2.out.old (box5_only (x := .int .i64 d3.st) (y := .slice qb.a1 d3.se.length qb.c1) (z := .slice qb.a2 d3.sd.length qb.c2) (u := .slice qb.a3 d3.sx.length qb.c3) (v := .slice qb.a4 d3.rv.length qb.c4)) (show Q < wf2.heap.size by omega)).at
          have A2 : Hid (DrAt (((((wc3.setCell ⟨Q, 0, none⟩ (.int .i64 d3.st)).setCell ⟨Q, 1, none⟩ (.slice qb.a1 d3.se.length qb.c1)).setCell ⟨Q, 2, none⟩ (.slice qb.a2 d3.sd.length qb.c2)).setCell ⟨Q, 3, none⟩ (.slice qb.a3 d3.sx.length qb.c3)).setCell ⟨Q, 4, none⟩ (.slice qb.a4 d3.rv.length qb.c4)) qb d3) := Lib.hid (by
            rcases Hor.out with ⟨e1, e2⟩ | ho
            · have h := HB2.out.at
              have e2' : d3 = d := e2
              rw [← e1, ← e2'] at h
              exact h
            · exact (ho.old box5_only hQWb).at)
          clear p0 p1 p2 p3 p4 pf0 pf1 pf2 pf3 pf4
          clear z0 z1 z2 z3 z4 zf0 zf1 zf2 zf3 zf4
          generalize (((((wc3.setCell ⟨Q, 0, none⟩ (.int .i64 d3.st)).setCell ⟨Q, 1, none⟩ (.slice qb.a1 d3.se.length qb.c1)).setCell ⟨Q, 2, none⟩ (.slice qb.a2 d3.sd.length qb.c2)).setCell ⟨Q, 3, none⟩ (.slice qb.a3 d3.sx.length qb.c3)).setCell ⟨Q, 4, none⟩ (.slice qb.a4 d3.rv.length qb.c4)) = we3 at *
          clear HB1 HBc Own1 Own2 Hor hQW hPQ hQWb
          have hbk := DC.of HB2.out.bP; have p0 := hbk.c0; have p1 := hbk.c1; have p2 := hbk.c2; have p3 := hbk.c3; have p4 := hbk.c4; have pf0 := hbk.f 0; have pf1 := hbk.f 1; have pf2 := hbk.f 2; have pf3 := hbk.f 3; have pf4 := hbk.f 4; clear hbk
          have hbk := DC.of HB2.out.bQ; have z0 := hbk.c0; have z1 := hbk.c1; have z2 := hbk.c2; have z3 := hbk.c3; have z4 := hbk.c4; have zf0 := hbk.f 0; have zf1 := hbk.f 1; have zf2 := hbk.f 2; have zf3 := hbk.f 3; have zf4 := hbk.f 4; clear hbk
          go_upto_region 26 with (first
            | (go_at_call 19
               refine (same_true qa qb d3 _ A1.out A2.out hs3.out).mono ?_
               rintro e wf3 ⟨rfl, hb3⟩
               have HB := Lib.hid (HB2.out.below hb3)
               clear hb3)
            | fail)
          clear p0 p1 p2 p3 p4 pf0 pf1 pf2 pf3 pf4
          clear z0 z1 z2 z3 z4 zf0 zf1 zf2 zf3 zf4
          clear HB2 A1 A2
          have hbk := DC.of HB.out.bT; have p0 := hbk.c0; have p1 := hbk.c1; have p2 := hbk.c2; have p3 := hbk.c3; have p4 := hbk.c4; have pf0 := hbk.f 0; have pf1 := hbk.f 1; have pf2 := hbk.f 2; have pf3 := hbk.f 3; have pf4 := hbk.f 4; clear hbk
          have hQW := HB.out.QW
          have hPQ := HB.out.PQ
          go_upto_region 27 with (first
            | (go_at_call 24
               refine (Hf4.out _ HB.out.at).mono ?_
               rintro e wa4 ⟨qa, rfl, hown, hb3⟩
               have Hown := Lib.hid hown
               have HBa := Lib.hid (HB.out.below hb3)
               have hbk := DC.of HBa.out.bP; have z0 := hbk.c0; have z1 := hbk.c1; have z2 := hbk.c2; have z3 := hbk.c3; have z4 := hbk.c4; have zf0 := hbk.f 0; have zf1 := hbk.f 1; have zf2 := hbk.f 2; have zf3 := hbk.f 3; have zf4 := hbk.f 4; clear hbk
               clear hown hb3)
            | fail)
          have HB1 := Lib.hid (HBa.out.putP qa d4)
          have Own1 := Lib.hid (Hown.out.old (box5_only (x := .int .i64 d4.st) (y := .slice qa.a1 d4.se.length qa.c1) (z := .slice qa.a2 d4.sd.length qa.c2) (u := .slice qa.a3 d4.sx.length qa.c3) (v := .slice qa.a4 d4.rv.length qa.c4)) (show P < wf3.heap.size by omega))
          clear p0 p1 p2 p3 p4 pf0 pf1 pf2 pf3 pf4
          clear z0 z1 z2 z3 z4 zf0 zf1 zf2 zf3 zf4
          generalize (((((wa4.setCell ⟨P, 0, none⟩ (.int .i64 d4.st)).setCell ⟨P, 1, none⟩ (.slice qa.a1 d4.se.length qa.c1)).setCell ⟨P, 2, none⟩ (.slice qa.a2 d4.sd.length qa.c2)).setCell ⟨P, 3, none⟩ (.slice qa.a3 d4.sx.length qa.c3)).setCell ⟨P, 4, none⟩ (.slice qa.a4 d4.rv.length qa.c4)) = wb4 at *
          clear HB HBa Hown
          have hbk := DC.of HB1.out.bT; have p0 := hbk.c0; have p1 := hbk.c1; have p2 := hbk.c2; have p3 := hbk.c3; have p4 := hbk.c4; have pf0 := hbk.f 0; have pf1 := hbk.f 1; have pf2 := hbk.f 2; have pf3 := hbk.f 3; have pf4 := hbk.f 4; clear hbk
          have hQWb := HB1.out.QW
          go_upto_region 28 with (first
            | (go_at_call 25
               refine (HfR4.out _ HB1.out.at).mono ?_
               rintro e wc4 ⟨qb, rfl, hor, hb3⟩
               have Hor := Lib.hid hor
               have HBc := Lib.hid (HB1.out.below hb3)
               have Own2 := Lib.hid (Own1.out.below hb3)
               have hbk := DC.of HBc.out.bQ; have z0 := hbk.c0; have z1 := hbk.c1; have z2 := hbk.c2; have z3 := hbk.c3; have z4 := hbk.c4; have zf0 := hbk.f 0; have zf1 := hbk.f 1; have zf2 := hbk.f 2; have zf3 := hbk.f 3; have zf4 := hbk.f 4; clear hbk
               clear hor hb3)
            | fail)
          have HB2 := Lib.hid (HBc.out.putQ qb d4)
          have A1 := Lib.hid (Own2.out.old (box5_only (x := .int .i64 d4.st) (y := .slice qb.a1 d4.se.length qb.c1) (z := .slice qb.a2 d4.sd.length qb.c2) (u := .slice qb.a3 d4.sx.length qb.c3) (v := .slice qb.a4 d4.rv.length qb.c4)) (show Q < wf3.heap.size by omega)).at
          have A2 : Hid (DrAt (((((wc4.setCell ⟨Q, 0, none⟩ (.int .i64 d4.st)).setCell ⟨Q, 1, none⟩ (.slice qb.a1 d4.se.length qb.c1)).setCell ⟨Q, 2, none⟩ (.slice qb.a2 d4.sd.length qb.c2)).setCell ⟨Q, 3, none⟩ (.slice qb.a3 d4.sx.length qb.c3)).setCell ⟨Q, 4, none⟩ (.slice qb.a4 d4.rv.length qb.c4)) qb d4) := Lib.hid (by
            rcases Hor.out with ⟨e1, e2⟩ | ho
            · have h := HB2.out.at
              have e2' : d4 = d := e2
              rw [← e1, ← e2'] at h
              exact h
            · exact (ho.old box5_only hQWb).at)
          clear p0 p1 p2 p3 p4 pf0 pf1 pf2 pf3 pf4
          clear z0 z1 z2 z3 z4 zf0 zf1 zf2 zf3 zf4
          generalize (((((wc4.setCell ⟨Q, 0, none⟩ (.int .i64 d4.st)).setCell ⟨Q, 1, none⟩ (.slice qb.a1 d4.se.length qb.c1)).setCell ⟨Q, 2, none⟩ (.slice qb.a2 d4.sd.length qb.c2)).setCell ⟨Q, 3, none⟩ (.slice qb.a3 d4.sx.length qb.c3)).setCell ⟨Q, 4, none⟩ (.slice qb.a4 d4.rv.length qb.c4)) = we4 at *
          clear HB1 HBc Own1 Own2 Hor hQW hPQ hQWb
          have hbk := DC.of HB2.out.bP; have p0 := hbk.c0; have p1 := hbk.c1; have p2 := hbk.c2; have p3 := hbk.c3; have p4 := hbk.c4; have pf0 := hbk.f 0; have pf1 := hbk.f 1; have pf2 := hbk.f 2; have pf3 := hbk.f 3; have pf4 := hbk.f 4; clear hbk
          have hbk := DC.of HB2.out.bQ; have z0 := hbk.c0; have z1 := hbk.c1; have z2 := hbk.c2; have z3 := hbk.c3; have z4 := hbk.c4; have zf0 := hbk.f 0; have zf1 := hbk.f 1; have zf2 := hbk.f 2; have zf3 := hbk.f 3; have zf4 := hbk.f 4; clear hbk
          go_upto_region 30 with (first
            | (go_at_call 19
               refine (same_true qa qb d4 _ A1.out A2.out hs4.out).mono ?_
               rintro e wf4 ⟨rfl, hb3⟩
               have HB := Lib.hid (HB2.out.below hb3)
               clear hb3)
            | fail)
          clear p0 p1 p2 p3 p4 pf0 pf1 pf2 pf3 pf4
          clear z0 z1 z2 z3 z4 zf0 zf1 zf2 zf3 zf4
          clear HB2 A1 A2
          go_wp2
          go_roundw
          case rel => exact ⟨j + 1, by omega, by go_num, HbT2.out.trans (HB.out.bel.mono hswT)⟩
          case measure => simp [intOf]; omega
        · have hj4' : ¬ (j : Int) < 4 := by omega
          have HW : Hid (Below w.heap.size w wr) := Lib.hid (HB6.out.trans (Hbw.out.mono hsw6))
          have hm8 := modV_bd by_ 8 (by omega)
          obtain ⟨M8, hM8⟩ : ∃ x, modV by_ 8 = x + 1 := ⟨modV by_ 8 - 1, by omega⟩
          have HM8 : Hid (∀ W, Calls Try.prog 12 #[.int .i64 by_, .int .i64 8] W fun e w' => e = .returned (.int .i64 (M8 + 1)) ∧ w' = W) := Lib.hid (fun W => by have := mod_any by_ 8 W ⟨hy1, hy2⟩ (by omega); rw [hM8] at this; exact this.mono fun _ _ ⟨h1, h2⟩ => ⟨h1, h2.symm⟩)
          have hm81 : -1 ≤ M8 := by omega
          have hm82 : M8 ≤ 7 := by omega
          clear hM8 hm8
          obtain ⟨⟨da, ea⟩, hxa⟩ : ∃ x, newE by_ = x := ⟨_, rfl⟩
          obtain ⟨⟨dc, ec⟩, hxc⟩ : ∃ x, newE M8 = x := ⟨_, rfl⟩
          have HF1 : Hid (∀ W, Calls Try.prog 26 #[.int .i64 by_] W (DrEPost W (da, ea))) := Lib.hid (fun W => by have := newD_any by_ W; rw [hxa] at this; exact this)
          have HF2 : Hid (∀ W, Calls Try.prog 27 #[.int .i64 by_] W (DrEPost W (da, ea))) := Lib.hid (fun W => by have := newR_any by_ W; rw [hxa] at this; exact this)
          have HF3 : Hid (∀ W, Calls Try.prog 26 #[.int .i64 M8] W (DrEPost W (dc, ec))) := Lib.hid (fun W => by have := newD_any M8 W; rw [hxc] at this; exact this)
          have HF4 : Hid (∀ W, Calls Try.prog 27 #[.int .i64 M8] W (DrEPost W (dc, ec))) := Lib.hid (fun W => by have := newR_any M8 W; rw [hxc] at this; exact this)
          have hsa : Hid da.small := Lib.hid (by have := small_new by_; rw [hxa] at this; exact this)
          have hsc : Hid dc.small := Lib.hid (by have := small_new M8; rw [hxc] at this; exact this)
          clear hxa hxc Hbw HB6 HR
          go_upto_region 32 with (first
            | (go_at_call 26
               refine (HF1.out _).mono ?_
               rintro e wxA ⟨qa, rfl, hown, hb3⟩
               have Hown := Lib.hid hown
               have Hb3 := Lib.hid hb3
               clear hown hb3)
            | fail)
          have hbal : Below wxA.heap.size wxA (wxA.alloc (.cells #[.int .i64 da.st, .slice qa.a1 da.se.length qa.c1, .slice qa.a2 da.sd.length qa.c2, .slice qa.a3 da.sx.length qa.c3, .slice qa.a4 da.rv.length qa.c4] 26)) := (Below.refl _ _).alloc (Nat.le_refl _) _
          have hb3s := Hb3.out.size
          have HWA : Hid (Below w.heap.size w (wxA.alloc (.cells #[.int .i64 da.st, .slice qa.a1 da.se.length qa.c1, .slice qa.a2 da.sd.length qa.c2, .slice qa.a3 da.sx.length qa.c3, .slice qa.a4 da.rv.length qa.c4] 26))) := Lib.hid (HW.out.trans ((Hb3.out.trans (hbal.mono hb3s)).mono HW.out.size))
          have HNA : Hid (BD (wxA.alloc (.cells #[.int .i64 da.st, .slice qa.a1 da.se.length qa.c1, .slice qa.a2 da.sd.length qa.c2, .slice qa.a3 da.sx.length qa.c3, .slice qa.a4 da.rv.length qa.c4] 26)) wxA.heap.size qa da) := Lib.hid (BD.new Hown.out.at)
          obtain ⟨bA, hbe⟩ : ∃ x, wxA.heap.size = x := ⟨_, rfl⟩
          rw [hbe] at HNA ⊢
          clear hbe hbal hb3s Hown Hb3
          generalize wxA.alloc (.cells #[.int .i64 da.st, .slice qa.a1 da.se.length qa.c1, .slice qa.a2 da.sd.length qa.c2, .slice qa.a3 da.sx.length qa.c3, .slice qa.a4 da.rv.length qa.c4] 26) = wA at *
          go_upto_region 33 with (first
            | (go_at_call 27
               refine (HF2.out _).mono ?_
               rintro e wxB ⟨qb, rfl, hown, hb3⟩
               have Hown := Lib.hid hown
               have Hb3 := Lib.hid hb3
               clear hown hb3)
            | fail)
          have hbal : Below wxB.heap.size wxB (wxB.alloc (.cells #[.int .i64 da.st, .slice qb.a1 da.se.length qb.c1, .slice qb.a2 da.sd.length qb.c2, .slice qb.a3 da.sx.length qb.c3, .slice qb.a4 da.rv.length qb.c4] 26)) := (Below.refl _ _).alloc (Nat.le_refl _) _
          have hb3s := Hb3.out.size
          have HWB : Hid (Below w.heap.size w (wxB.alloc (.cells #[.int .i64 da.st, .slice qb.a1 da.se.length qb.c1, .slice qb.a2 da.sd.length qb.c2, .slice qb.a3 da.sx.length qb.c3, .slice qb.a4 da.rv.length qb.c4] 26))) := Lib.hid (HWA.out.trans ((Hb3.out.trans (hbal.mono hb3s)).mono HWA.out.size))
          have HNB : Hid (BD (wxB.alloc (.cells #[.int .i64 da.st, .slice qb.a1 da.se.length qb.c1, .slice qb.a2 da.sd.length qb.c2, .slice qb.a3 da.sx.length qb.c3, .slice qb.a4 da.rv.length qb.c4] 26)) wxB.heap.size qb da) := Lib.hid (BD.new Hown.out.at)
          have HNA := Lib.hid ((HNA.out.below Hb3.out).below hbal)
          obtain ⟨bB, hbe⟩ : ∃ x, wxB.heap.size = x := ⟨_, rfl⟩
          rw [hbe] at HNB ⊢
          clear hbe hbal hb3s Hown Hb3
          generalize wxB.alloc (.cells #[.int .i64 da.st, .slice qb.a1 da.se.length qb.c1, .slice qb.a2 da.sd.length qb.c2, .slice qb.a3 da.sx.length qb.c3, .slice qb.a4 da.rv.length qb.c4] 26) = wB at *
          go_upto_region 34 with (first
            | (go_at_call 12; (with_reducible refine (HM8.out _).mono ?_); rintro e wm ⟨rfl, rfl⟩)
            | (go_at_call 26
               refine (HF3.out _).mono ?_
               rintro e wxC ⟨qc, rfl, hown, hb3⟩
               have Hown := Lib.hid hown
               have Hb3 := Lib.hid hb3
               clear hown hb3)
            | fail)
          have hbal : Below wxC.heap.size wxC (wxC.alloc (.cells #[.int .i64 dc.st, .slice qc.a1 dc.se.length qc.c1, .slice qc.a2 dc.sd.length qc.c2, .slice qc.a3 dc.sx.length qc.c3, .slice qc.a4 dc.rv.length qc.c4] 26)) := (Below.refl _ _).alloc (Nat.le_refl _) _
          have hb3s := Hb3.out.size
          have HWC : Hid (Below w.heap.size w (wxC.alloc (.cells #[.int .i64 dc.st, .slice qc.a1 dc.se.length qc.c1, .slice qc.a2 dc.sd.length qc.c2, .slice qc.a3 dc.sx.length qc.c3, .slice qc.a4 dc.rv.length qc.c4] 26))) := Lib.hid (HWB.out.trans ((Hb3.out.trans (hbal.mono hb3s)).mono HWB.out.size))
          have HNC : Hid (BD (wxC.alloc (.cells #[.int .i64 dc.st, .slice qc.a1 dc.se.length qc.c1, .slice qc.a2 dc.sd.length qc.c2, .slice qc.a3 dc.sx.length qc.c3, .slice qc.a4 dc.rv.length qc.c4] 26)) wxC.heap.size qc dc) := Lib.hid (BD.new Hown.out.at)
          have HNA := Lib.hid ((HNA.out.below Hb3.out).below hbal)
          have HNB := Lib.hid ((HNB.out.below Hb3.out).below hbal)
          obtain ⟨bC, hbe⟩ : ∃ x, wxC.heap.size = x := ⟨_, rfl⟩
          rw [hbe] at HNC ⊢
          clear hbe hbal hb3s Hown Hb3
          generalize wxC.alloc (.cells #[.int .i64 dc.st, .slice qc.a1 dc.se.length qc.c1, .slice qc.a2 dc.sd.length qc.c2, .slice qc.a3 dc.sx.length qc.c3, .slice qc.a4 dc.rv.length qc.c4] 26) = wC at *
          go_upto_region 35 with (first
            | (go_at_call 12; (with_reducible refine (HM8.out _).mono ?_); rintro e wm ⟨rfl, rfl⟩)
            | (go_at_call 27
               refine (HF4.out _).mono ?_
               rintro e wxD ⟨qd, rfl, hown, hb3⟩
               have Hown := Lib.hid hown
               have Hb3 := Lib.hid hb3
               clear hown hb3)
            | fail)
          have hbal : Below wxD.heap.size wxD (wxD.alloc (.cells #[.int .i64 dc.st, .slice qd.a1 dc.se.length qd.c1, .slice qd.a2 dc.sd.length qd.c2, .slice qd.a3 dc.sx.length qd.c3, .slice qd.a4 dc.rv.length qd.c4] 26)) := (Below.refl _ _).alloc (Nat.le_refl _) _
          have hb3s := Hb3.out.size
          have HWD : Hid (Below w.heap.size w (wxD.alloc (.cells #[.int .i64 dc.st, .slice qd.a1 dc.se.length qd.c1, .slice qd.a2 dc.sd.length qd.c2, .slice qd.a3 dc.sx.length qd.c3, .slice qd.a4 dc.rv.length qd.c4] 26))) := Lib.hid (HWC.out.trans ((Hb3.out.trans (hbal.mono hb3s)).mono HWC.out.size))
          have HND : Hid (BD (wxD.alloc (.cells #[.int .i64 dc.st, .slice qd.a1 dc.se.length qd.c1, .slice qd.a2 dc.sd.length qd.c2, .slice qd.a3 dc.sx.length qd.c3, .slice qd.a4 dc.rv.length qd.c4] 26)) wxD.heap.size qd dc) := Lib.hid (BD.new Hown.out.at)
          have HNA := Lib.hid ((HNA.out.below Hb3.out).below hbal)
          have HNB := Lib.hid ((HNB.out.below Hb3.out).below hbal)
          have HNC := Lib.hid ((HNC.out.below Hb3.out).below hbal)
          obtain ⟨bD, hbe⟩ : ∃ x, wxD.heap.size = x := ⟨_, rfl⟩
          rw [hbe] at HND ⊢
          clear hbe hbal hb3s Hown Hb3
          generalize wxD.alloc (.cells #[.int .i64 dc.st, .slice qd.a1 dc.se.length qd.c1, .slice qd.a2 dc.sd.length qd.c2, .slice qd.a3 dc.sx.length qd.c3, .slice qd.a4 dc.rv.length qd.c4] 26) = wD at *
          have hbk := DC.of HNA.out.b; have p0 := hbk.c0; have p1 := hbk.c1; have p2 := hbk.c2; have p3 := hbk.c3; have p4 := hbk.c4; have pf0 := hbk.f 0; have pf1 := hbk.f 1; have pf2 := hbk.f 2; have pf3 := hbk.f 3; have pf4 := hbk.f 4; clear hbk
          have hbk := DC.of HNB.out.b; have z0 := hbk.c0; have z1 := hbk.c1; have z2 := hbk.c2; have z3 := hbk.c3; have z4 := hbk.c4; have zf0 := hbk.f 0; have zf1 := hbk.f 1; have zf2 := hbk.f 2; have zf3 := hbk.f 3; have zf4 := hbk.f 4; clear hbk
          have HSa : Hid (Calls Try.prog 19 #[.agg #[.int .i64 da.st, .slice qa.a1 da.se.length qa.c1, .slice qa.a2 da.sd.length qa.c2, .slice qa.a3 da.sx.length qa.c3, .slice qa.a4 da.rv.length qa.c4], .agg #[.int .i64 da.st, .slice qb.a1 da.se.length qb.c1, .slice qb.a2 da.sd.length qb.c2, .slice qb.a3 da.sx.length qb.c3, .slice qb.a4 da.rv.length qb.c4]] wD fun e w' => e = .returned (.bool true) ∧ Below wD.heap.size wD w') := Lib.hid (same_true qa qb da wD HNA.out.a HNB.out.a hsa.out)
          have HSc : Hid (∀ W, Below wD.heap.size wD W → Calls Try.prog 19 #[.agg #[.int .i64 dc.st, .slice qc.a1 dc.se.length qc.c1, .slice qc.a2 dc.sd.length qc.c2, .slice qc.a3 dc.sx.length qc.c3, .slice qc.a4 dc.rv.length qc.c4], .agg #[.int .i64 dc.st, .slice qd.a1 dc.se.length qd.c1, .slice qd.a2 dc.sd.length qd.c2, .slice qd.a3 dc.sx.length qd.c3, .slice qd.a4 dc.rv.length qd.c4]] W fun e w' => e = .returned (.bool true) ∧ Below W.heap.size W w') := Lib.hid (fun W hW => same_true qc qd dc W (HNC.out.a.below hW) (HND.out.a.below hW) hsc.out)
          go_wp2_with (first
            | (go_at_call 19
               (with_reducible refine HSa.out.mono ?_)
               rintro e wE ⟨rfl, hb3⟩
               have HbE := Lib.hid hb3
               have hbk := DC.of (HNC.out.below hb3).b; have y0 := hbk.c0; have y1 := hbk.c1; have y2 := hbk.c2; have y3 := hbk.c3; have y4 := hbk.c4; have yf0 := hbk.f 0; have yf1 := hbk.f 1; have yf2 := hbk.f 2; have yf3 := hbk.f 3; have yf4 := hbk.f 4; clear hbk
               have hbk := DC.of (HND.out.below hb3).b; have x0 := hbk.c0; have x1 := hbk.c1; have x2 := hbk.c2; have x3 := hbk.c3; have x4 := hbk.c4; have xf0 := hbk.f 0; have xf1 := hbk.f 1; have xf2 := hbk.f 2; have xf3 := hbk.f 3; have xf4 := hbk.f 4; clear hbk
               have hsE := hb3.size
               clear hb3)
            | (go_at_call 19
               (with_reducible refine (HSc.out _ HbE.out).mono ?_)
               rintro e wF ⟨rfl, hb3⟩
               have HbF : Hid (Below w.heap.size w wF) := Lib.hid (HWD.out.trans ((HbE.out.trans (hb3.mono hsE)).mono HWD.out.size))
               clear hb3)
            | (go_at_call 9; refine (awake_any _).mono ?_; rintro e wG ⟨rfl, hb3⟩; have HbG := Lib.hid (HbF.out.trans (hb3.mono HbF.out.size)); clear hb3)
            | fail)
          go_ret
          exact ⟨rfl, HbG.out⟩
end Go.Proofs.Ytbkkmgofjhaaoaa
