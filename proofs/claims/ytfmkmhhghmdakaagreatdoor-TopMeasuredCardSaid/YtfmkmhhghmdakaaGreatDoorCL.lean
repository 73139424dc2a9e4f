/- How an argument that can be read is opened: a slice of integers. -/
import Derived.ProofKit
import Derived.Test.YtfmkmhhghmdakaaGreatDoorCA
import Derived.Test.YtfmkmhhghmdakaaGreatDoorCH
import Derived.Test.YtfmkmhhghmdakaaGreatDoorCI
import Derived.Test.YtfmkmhhghmdakaaGreatDoorCJ
import Derived.Test.YtfmkmhhghmdakaaGreatDoorCK
namespace Go.Proofs.YtfmkmhhghmdakaaGreatDoor
open Go.RowKit Go.Shelf
set_option linter.unusedVariables false
set_option linter.unusedSimpArgs false

theorem SlL.lit1 (w : World) (t : TypeId) (x : Ln × LV) (B : Nat) (hB : B = w.heap.size) (hx : SlR w x.2.a x.1.rg.length x.2.c x.1.rg) : SlL (w.alloc (.cells #[.int .i64 x.1.pc, .slice x.2.a x.1.rg.length x.2.c, .int .i64 x.1.cr, .int .i64 x.1.sch] t)) (some ⟨B, 0, none⟩) 1 1 [x] :=
  ⟨rfl, Nat.le_refl _, by unfold maxLen; omega, Lies.new w t _ 1 _ rfl B hB, fun y hy => by rw [List.mem_singleton] at hy; subst hy; exact hx.alloc _⟩
/-- What a line's numbers are. -/
structure Nums (rg le : List R4) (wd a a2 B B2 mg d : Int) : Prop where
  m1 : meaV rg = (a, B, 0)
  ar : areaP rg = a
  ac : acceptV a a B wd = a ∧ checkT a a B wd = 0
  m2 : meaV le = (a2, B2, 0)
  ar2 : areaP le = a2
  mg1 : marginV a2 B2 wd = mg ∧ checkT 0 a2 B2 wd = 0
  de : decideV a a2 B2 wd = d ∧ checkT a a2 B2 wd = 0
  b1 : 0 ≤ a ∧ a ≤ 900
  b2 : 0 ≤ a2 ∧ a2 ≤ 900
  b3 : 0 ≤ mg ∧ mg ≤ 900
  cs : (d = 1 ∧ a ≤ a2) ∨ (d = -1 ∧ a2 + mg < a) ∨ (d = 0 ∧ a2 < a ∧ a ≤ a2 + mg)
theorem nums_of {rg le : List R4} {wd : Int} (h1 : Reg 30 120 rg) (h2 : Reg 30 120 le) (hw : 0 ≤ wd ∧ wd ≤ 200) : ∃ a a2 B B2 mg d, Nums rg le wd a a2 B B2 mg d := by
  obtain ⟨m1, b1, c1⟩ := meas30 h1 (by omega)
  obtain ⟨m2, b2, c2⟩ := meas30 h2 (by omega)
  have hm1 : measB (areaP rg) (bordP rg) = true := (measB_iff _ _).2 (by omega)
  have hm2 : measB (areaP le) (bordP le) = true := (measB_iff _ _).2 (by omega)
  have k1 : checkT (areaP rg) (areaP rg) (bordP rg) wd = 0 := (checkT_zero _ _ _ _).2 ⟨hm1, by omega⟩
  have k2 : checkT 0 (areaP le) (bordP le) wd = 0 := (checkT_zero _ _ _ _).2 ⟨hm2, by omega⟩
  have k3 : checkT (areaP rg) (areaP le) (bordP le) wd = 0 := (checkT_zero _ _ _ _).2 ⟨hm2, by omega⟩
  have q1 : 0 ≤ bordP rg * wd := Int.mul_nonneg c1.1 hw.1
  have q2 : 0 ≤ bordP le * wd := Int.mul_nonneg c2.1 hw.1
  refine ⟨areaP rg, areaP le, bordP rg, bordP le, min (areaP le) ((bordP le * wd + 99) / 100), decideV (areaP rg) (areaP le) (bordP le) wd, m1, rfl, ⟨?_, k1⟩, m2, rfl, ⟨?_, k2⟩, ⟨rfl, k3⟩, b1, b2, ?_, ?_⟩
  · unfold acceptV
    rw [if_pos k1, if_pos (by omega)]
  · unfold marginV
    rw [if_pos k2]
  · omega
  · unfold decideV
    rw [if_pos k3]
    by_cases h : areaP rg ≤ areaP le
    · rw [if_pos h]; exact .inl ⟨rfl, h⟩
    · rw [if_neg h]
      by_cases h' : min (areaP le) ((bordP le * wd + 99) / 100) < areaP rg - areaP le
      · rw [if_pos h']; exact .inr (.inl ⟨rfl, by omega⟩)
      · rw [if_neg h']; exact .inr (.inr ⟨rfl, by omega, by omega⟩)

set_option maxHeartbeats 16000000 in
set_option maxRecDepth 100000 in
theorem measuredLaw (A : Option Addr) (n c : Nat) (zs : List Int) (wz : Int) (w : World) (hn : zs.length = n) (hc : n ≤ c) (hm : c ≤ maxLen) (hw : ∀ z ∈ zs, (Lit.int .i64 z).wf = true) (hA : Lies w A n (zs.map (.int .i64))) (hwz : 0 ≤ wz ∧ wz ≤ 255) :
    Calls Tryz.prog 3 #[.slice A n c, .int .u8 wz] w fun e w' => e = .returned (.bool true) ∧ Below w.heap.size w w' := by
  have ht : 0 ≤ wz.tmod 201 ∧ wz.tmod 201 ≤ 200 := ⟨Int.tmod_nonneg _ hwz.1, by have := Int.tmod_lt_of_pos wz (show (0 : Int) < 201 by omega); omega⟩
  have hv1 : IntKind.i64.wrap wz = wz := IntWalk.i64_in _ (by omega)
  have HN := Lib.hid (new_any A n c zs w hn hc hm hw hA)
  clear hn hc hm hw hA
  go_enter Tryz.func3, Tryz.ntmps3
  go_wp2_with fail
  refine HN.out.mono ?_
  rintro e w1 ⟨g, rfl, hwg, ht1, hb1⟩
  have Ht1 := Lib.hid ht1
  have Hb1 := Lib.hid hb1
  have hg1 := ht1.lt
  have hs1 := hb1.size
  clear ht1 hb1 HN
  go_wp2_with fail
  refine (crops_any g _ w1 Ht1.out).mono ?_
  rintro e w2 ⟨C, CA, cc, r2, rfl, hC, ht2, hg2, hCl, hCb⟩
  have Ht2 := Lib.hid ht2
  have Hg2 := Lib.hid hg2
  obtain ⟨nc, hnc⟩ : ∃ nc, C.length = nc := ⟨_, rfl⟩
  rw [hnc] at hCl ⊢
  clear hC ht2 hg2 Ht1 hnc hCb
  go_wp2_with fail
  refine (lines_any g r2 CA nc cc 3 w2 Ht2.out (by omega) (by omega)).mono ?_
  rintro e w3 ⟨L, LA, lc, R, NA, kc, RA, rc, r3, k, rfl, hL, hnu, hRo, -, hg3, hpc, hm1, hok, hk4⟩
  have HSL := Lib.hid hL.sll
  have Hb3 : Hid (Below w.heap.size w w3) := Lib.hid (below_only Hb1.out (only_trans Hg2.out hg3) hwg hs1)
  have Hpc := Lib.hid hpc
  have Hok := Lib.hid hok.ok
  have hLl : L.length ≤ 4 := by have := hok.len; rw [lns_len] at this; omega
  clear hL hnu hRo hg3 hpc hok Hg2 Ht2 Hb1
  have hs3 := Hb3.out.size
  go_upto_region 4 with fail
  have hwd : 0 ≤ wz % 201 ∧ wz % 201 ≤ 200 := by omega
  obtain ⟨wd, hwe⟩ : ∃ wd, wz % 201 = wd := ⟨_, rfl⟩
  rw [hwe] at hwd ⊢
  clear hwe ht hv1
  go_wp2
  go_loopw [45] (fun iv wr => ∃ i : Nat, i ≤ L.length ∧ iv = .int .i64 (i : Int) ∧ Below w3.heap.size w3 wr) (fun iv _ => L.length - (intOf iv).toNat)
  case atStart => exact ⟨0, Nat.zero_le _, rfl, Below.refl _ _⟩
  case round =>
    obtain ⟨i, hi, rfl, hbw⟩ := hrel
    obtain ⟨wo, rfl⟩ : ∃ wo : World, wo = wr := ⟨_, rfl⟩
    have Hbw := Lib.hid hbw
    have hsw := hbw.size
    clear hbw
    by_cases hiR : i < L.length
    · have hiR' : (i : Int) < (L.length : Int) := by omega
      obtain ⟨b, off, rfl, hbl, c0, c1, c2, c3, hSx⟩ := (HSL.out.below Hbw.out).at i hiR
      have hok := Hok.out L[i].1 (List.mem_map_of_mem (List.getElem_mem hiR))
      obtain ⟨x, hx⟩ : ∃ x, x = L[i] := ⟨_, rfl⟩
      rw [← hx] at c0 c1 c2 c3 hSx hok
      obtain ⟨x, lv⟩ := x
      dsimp only at c0 c1 c2 c3 hSx hok
      obtain ⟨l1, l2, l3, l4, l5, l6⟩ := less_law Hpc.out hok
      have hcl := clip_less Hpc.out hok l5 l6
      have hval := hok.reg.valid (by omega) (by omega)
      have hn0 : 0 < x.rg.length := List.length_pos_iff.2 hok.ne
      have hpos := hok.reg.ins.pos
      have HSh := Lib.hid (fun D W (h : SlR W lv.a x.rg.length D x.rg) => shrink_any lv.a x.rg.length D x.rg W h hval hn0 hpos l1 l2 l3 l4 l5.len)
      obtain ⟨le, hle⟩ : ∃ le, lessP x.rg = le := ⟨_, rfl⟩
      rw [hle] at HSh hcl l5
      obtain ⟨a, a2, B, B2, mg, d, hnu⟩ := nums_of hok.reg l5 hwd
      have Hnu := Lib.hid hnu
      have Hcl := Lib.hid hcl
      have HM := Lib.hid (fun D W (h : SlR W lv.a x.rg.length D x.rg) => meaT_any lv.a x.rg.length D x.rg W h)
      have HAr := Lib.hid (fun D W (h : SlR W lv.a x.rg.length D x.rg) => area_any lv.a x.rg.length D x.rg W h)
      rw [hnu.m1] at HM
      rw [hnu.ar] at HAr
      have HM2 := Lib.hid (fun E m D W (h : SlR W E m D le) => meaT_any E m D le W h)
      have HAr2 := Lib.hid (fun E m D W (h : SlR W E m D le) => area_any E m D le W h)
      rw [hnu.m2] at HM2
      rw [hnu.ar2] at HAr2
      have HAc := Lib.hid (fun W => acceptT_any a a B wd W)
      rw [hnu.ac.1, hnu.ac.2] at HAc
      have HMg := Lib.hid (fun W => marginT_any a2 B2 wd W)
      rw [hnu.mg1.1, hnu.mg1.2] at HMg
      have HDe := Lib.hid (fun W => decideT_any a a2 B2 wd W)
      rw [hnu.de.1, hnu.de.2] at HDe
      have Hcs := Lib.hid hnu.cs
      have hb1 := hnu.b1
      have hb2 := hnu.b2
      have hb3 := hnu.b3
      have HSx := Lib.hid hSx
      clear hSx hok l1 l2 l3 l4 l5 l6 hcl hval hpos hle hnu hx
      obtain ⟨N, hN⟩ : ∃ N, x.rg.length = N := ⟨_, rfl⟩
      rw [hN] at c1 HSx HSh HM HAr hn0
      have HNe := Lib.hid hN
      clear hN
      go_upto_region 7 with fail
      obtain ⟨w4, hw4⟩ : ∃ w4 : World, w4 = wo.alloc (.cells #[.int .i64 x.pc, .slice lv.a N lv.c, .int .i64 x.cr, .int .i64 x.sch] 35) := ⟨_, rfl⟩
      rw [← hw4]
      obtain ⟨X, hX⟩ : ∃ X, X = wo.heap.size := ⟨_, rfl⟩
      have HX4 : Hid (w4.heap[X]? = some (.cells #[.int .i64 x.pc, .slice lv.a N lv.c, .int .i64 x.cr, .int .i64 x.sch] 35 (0, 0))) := Lib.hid (by rw [hw4, hX]; exact heap_alloc_new wo _)
      have Hb4 : Hid (Below wo.heap.size wo w4) := Lib.hid (by rw [hw4]; exact (by repeat' (first | with_reducible exact Below.refl _ _ | with_reducible refine below_drewN ?_ _ | with_reducible refine Below.drew ?_ | with_reducible refine Below.alloc ?_ ?_ _ | with_reducible refine Below.setCell ?_ ?_ _ | with_reducible refine Below.trans ?_ (Below.mono (by with_reducible assumption) ?_) | (simp; done) | (simp; omega) | omega)))
      have hs4 : w4.heap.size = X + 1 := by rw [hw4, hX]; simp
      have hXo : wo.heap.size ≤ X := by omega
      rw [← hX]
      have HSx4 := Lib.hid (HSx.out.below Hb4.out)
      have x1 := cell_of_row _ _ 1 _ _ _ HX4.out
      clear hw4 hX c0 c1 c2 c3 HSx
      go_upto_region 8 with (first
        | (go_at_call 10
           refine (HM.out _ _ HSx4.out).mono ?_
           rintro e w5 ⟨rfl, hb5⟩
           have Hb5 := Lib.hid (Hb4.out.trans (hb5.mono (by omega)))
           have HX5 := Lib.hid ((hb5.block X (by omega)).trans HX4.out)
           have HSx5 := Lib.hid (HSx4.out.below hb5)
           have hs5 := hb5.size
           clear hb5 x1)
        | fail)
      obtain ⟨w6, hw6⟩ : ∃ w6 : World, w6 = w5.alloc (.cells #[.int .i64 a, .int .i64 B] 37) := ⟨_, rfl⟩
      rw [← hw6]
      obtain ⟨M, hM⟩ : ∃ M, M = w5.heap.size := ⟨_, rfl⟩
      have HM6 : Hid (w6.heap[M]? = some (.cells #[.int .i64 a, .int .i64 B] 37 (0, 0))) := Lib.hid (by rw [hw6, hM]; exact heap_alloc_new w5 _)
      have hb56 : Below w5.heap.size w5 w6 := by rw [hw6]; exact (by repeat' (first | with_reducible exact Below.refl _ _ | with_reducible refine below_drewN ?_ _ | with_reducible refine Below.drew ?_ | with_reducible refine Below.alloc ?_ ?_ _ | with_reducible refine Below.setCell ?_ ?_ _ | with_reducible refine Below.trans ?_ (Below.mono (by with_reducible assumption) ?_) | (simp; done) | (simp; omega) | omega))
      have Hb6 := Lib.hid (Hb5.out.trans (hb56.mono (by omega)))
      have HX6 := Lib.hid ((hb56.block X (by omega)).trans HX5.out)
      have HSx6 := Lib.hid (HSx5.out.below hb56)
      have hs6 : w6.heap.size = M + 1 := by rw [hw6, hM]; simp
      rw [← hM]
      have hXM : X < M := by omega
      have x1 := cell_of_row _ _ 1 _ _ _ HX6.out
      clear hw6 hM hb56
      go_upto_region 9 with (first
        | (go_at_call 11
           refine (HAr.out _ _ HSx6.out).mono ?_
           rintro e w7 ⟨rfl, hb7⟩
           have Hb7 := Lib.hid (Hb6.out.trans (hb7.mono (by omega)))
           have HX7 := Lib.hid ((hb7.block X (by omega)).trans HX6.out)
           have HM7 := Lib.hid ((hb7.block M (by omega)).trans HM6.out)
           have HSx7 := Lib.hid (HSx6.out.below hb7)
           have hs7 := hb7.size
           clear hb7 x1)
        | fail)
      have m0 := cell_of_row _ _ 0 _ _ _ HM7.out
      have m1 := cell_of_row _ _ 1 _ _ _ HM7.out
      go_upto_region 10 with (first
        | (go_at_call 12
           refine (HAc.out _).mono ?_
           rintro e w8 ⟨rfl, hb8⟩
           have Hb8 := Lib.hid (Hb7.out.trans (hb8.mono (by omega)))
           have HX8 := Lib.hid ((hb8.block X (by omega)).trans HX7.out)
           have HSx8 := Lib.hid (HSx7.out.below hb8)
           have hs8 := hb8.size
           clear hb8 m0 m1)
        | fail)
      have x1 := cell_of_row _ _ 1 _ _ _ HX8.out
      go_upto_region 11 with (first
        | (go_at_call 13
           refine (HSh.out _ _ HSx8.out).mono ?_
           rintro e w9 ⟨v9, rfl, hown9, hb9⟩
           obtain ⟨E9, D9, rfl, hS9⟩ := SlR.of_own hown9
           have HS9 := Lib.hid hS9
           have Hb9 := Lib.hid (Hb8.out.trans (hb9.mono (by omega)))
           have HX9 := Lib.hid ((hb9.block X (by omega)).trans HX8.out)
           have HSx9 := Lib.hid (HSx8.out.below hb9)
           have hs9 := hb9.size
           clear hb9 hown9 hS9 x1)
        | fail)
      obtain ⟨q, hq⟩ : ∃ q, le.length = q := ⟨_, rfl⟩
      (try simp only [hq])
      rw [hq] at HS9
      have Hq := Lib.hid hq
      clear hq
      obtain ⟨w10, hw10⟩ : ∃ w10 : World, w10 = w9.alloc (.cells #[.slice E9 q D9] 33) := ⟨_, rfl⟩
      rw [← hw10]
      obtain ⟨S, hS⟩ : ∃ S, S = w9.heap.size := ⟨_, rfl⟩
      have HS10 : Hid (w10.heap[S]? = some (.cells #[.slice E9 q D9] 33 (0, 0))) := Lib.hid (by rw [hw10, hS]; exact heap_alloc_new w9 _)
      have hb910 : Below w9.heap.size w9 w10 := by rw [hw10]; exact (by repeat' (first | with_reducible exact Below.refl _ _ | with_reducible refine below_drewN ?_ _ | with_reducible refine Below.drew ?_ | with_reducible refine Below.alloc ?_ ?_ _ | with_reducible refine Below.setCell ?_ ?_ _ | with_reducible refine Below.trans ?_ (Below.mono (by with_reducible assumption) ?_) | (simp; done) | (simp; omega) | omega))
      have Hb10 := Lib.hid (Hb9.out.trans (hb910.mono (by omega)))
      have HX10 := Lib.hid ((hb910.block X (by omega)).trans HX9.out)
      have HSx10 := Lib.hid (HSx9.out.below hb910)
      have HSl10 := Lib.hid (HS9.out.below hb910)
      have hs10 : w10.heap.size = S + 1 := by rw [hw10, hS]; simp
      rw [← hS]
      have hXS : M < S := by omega
      have s0 := cell_of_row _ _ 0 _ _ _ HS10.out
      clear hw10 hS hb910
      go_upto_region 12 with (first
        | (go_at_call 10
           refine (HM2.out _ _ _ _ HSl10.out).mono ?_
           rintro e w11 ⟨rfl, hb11⟩
           have Hb11 := Lib.hid (Hb10.out.trans (hb11.mono (by omega)))
           have HX11 := Lib.hid ((hb11.block X (by omega)).trans HX10.out)
           have HS11 := Lib.hid ((hb11.block S (by omega)).trans HS10.out)
           have HSx11 := Lib.hid (HSx10.out.below hb11)
           have HSl11 := Lib.hid (HSl10.out.below hb11)
           have hs11 := hb11.size
           clear hb11 s0)
        | fail)
      obtain ⟨w12, hw12⟩ : ∃ w12 : World, w12 = w11.alloc (.cells #[.int .i64 a2, .int .i64 B2] 37) := ⟨_, rfl⟩
      rw [← hw12]
      obtain ⟨K, hK⟩ : ∃ K, K = w11.heap.size := ⟨_, rfl⟩
      have HK12 : Hid (w12.heap[K]? = some (.cells #[.int .i64 a2, .int .i64 B2] 37 (0, 0))) := Lib.hid (by rw [hw12, hK]; exact heap_alloc_new w11 _)
      have hb1112 : Below w11.heap.size w11 w12 := by rw [hw12]; exact (by repeat' (first | with_reducible exact Below.refl _ _ | with_reducible refine below_drewN ?_ _ | with_reducible refine Below.drew ?_ | with_reducible refine Below.alloc ?_ ?_ _ | with_reducible refine Below.setCell ?_ ?_ _ | with_reducible refine Below.trans ?_ (Below.mono (by with_reducible assumption) ?_) | (simp; done) | (simp; omega) | omega))
      have Hb12 := Lib.hid (Hb11.out.trans (hb1112.mono (by omega)))
      have HX12 := Lib.hid ((hb1112.block X (by omega)).trans HX11.out)
      have HS12 := Lib.hid ((hb1112.block S (by omega)).trans HS11.out)
      have HSx12 := Lib.hid (HSx11.out.below hb1112)
      have HSl12 := Lib.hid (HSl11.out.below hb1112)
      have hs12 : w12.heap.size = K + 1 := by rw [hw12, hK]; simp
      rw [← hK]
      have hSK : S < K := by omega
      have k0 := cell_of_row _ _ 0 _ _ _ HK12.out
      have k1 := cell_of_row _ _ 1 _ _ _ HK12.out
      clear hw12 hK hb1112
      go_upto_region 13 with (first
        | (go_at_call 14
           refine (HMg.out _).mono ?_
           rintro e w13 ⟨rfl, hb13⟩
           have Hb13 := Lib.hid (Hb12.out.trans (hb13.mono (by omega)))
           have HX13 := Lib.hid ((hb13.block X (by omega)).trans HX12.out)
           have HS13 := Lib.hid ((hb13.block S (by omega)).trans HS12.out)
           have HK13 := Lib.hid ((hb13.block K (by omega)).trans HK12.out)
           have HSx13 := Lib.hid (HSx12.out.below hb13)
           have HSl13 := Lib.hid (HSl12.out.below hb13)
           have hs13 := hb13.size
           clear hb13 k0 k1)
        | fail)
      have k0 := cell_of_row _ _ 0 _ _ _ HK13.out
      have k1 := cell_of_row _ _ 1 _ _ _ HK13.out
      go_upto_region 14 with (first
        | (go_at_call 15
           refine (HDe.out _).mono ?_
           rintro e w14 ⟨rfl, hb14⟩
           have Hb14 := Lib.hid (Hb13.out.trans (hb14.mono (by omega)))
           have HX14 := Lib.hid ((hb14.block X (by omega)).trans HX13.out)
           have HS14 := Lib.hid ((hb14.block S (by omega)).trans HS13.out)
           have HK14 := Lib.hid ((hb14.block K (by omega)).trans HK13.out)
           have HSx14 := Lib.hid (HSx13.out.below hb14)
           have HSl14 := Lib.hid (HSl13.out.below hb14)
           have hs14 := hb14.size
           clear hb14 k0 k1)
        | fail)
      have x0 := cell_of_row _ _ 0 _ _ _ HX14.out
      have x1 := cell_of_row _ _ 1 _ _ _ HX14.out
      have x2 := cell_of_row _ _ 2 _ _ _ HX14.out
      have x3 := cell_of_row _ _ 3 _ _ _ HX14.out
      have s0 := fun o => (World.cell?_alloc_lt w14 o ⟨S, 0, none⟩ (by show S < w14.heap.size; omega)).trans (cell_of_row _ _ 0 _ _ _ HS14.out)
      have Hx1 : Hid (SlL (w14.alloc (.cells #[.int .i64 x.pc, .slice lv.a N lv.c, .int .i64 x.cr, .int .i64 x.sch] 35)) (some ⟨w14.heap.size, 0, none⟩) 1 1 [(x, lv)]) := Lib.hid (by
        have := SlL.lit1 w14 35 (x, lv) w14.heap.size rfl (by dsimp only; rw [HNe.out]; exact HSx14.out)
        dsimp only at this
        rw [HNe.out] at this
        exact this)
      have HCl := Lib.hid (clipC_any (some ⟨w14.heap.size, 0, none⟩) 1 1 [(x, lv)] E9 q D9 le _ Hx1.out (HSl14.out.alloc _))
      change Hid (Calls _ _ _ _ (ClPost _ (clipCP [x] le))) at HCl
      rw [Hcl.out] at HCl
      go_upto_region 15 with (first
        | (go_at_call 16
           refine HCl.out.mono ?_
           rintro e w16 ⟨O, OA, oc, rfl, hO, hOo, hb16⟩
           have Hb16 := Lib.hid (Hb14.out.trans ((show Below w14.heap.size w14 w16 from (by have hbq := hb16; exact (by repeat' (first | with_reducible exact Below.refl _ _ | with_reducible assumption | with_reducible refine below_drewN ?_ _ | with_reducible refine Below.drew ?_ | with_reducible refine Below.alloc ?_ ?_ _ | with_reducible refine Below.setCell ?_ ?_ _ | with_reducible refine Below.trans ?_ (Below.mono (by with_reducible assumption) ?_) | with_reducible refine below_only ?_ (by with_reducible assumption) ?_ ?_ | (simp; done) | (simp; omega) | omega)))).mono (by omega)))
           have HK16 := Lib.hid ((hb16.block K (by rw [World.size_alloc]; omega)).trans ((Below.heap_alloc _ _ _ (by omega)).trans HK14.out))
           have HO := Lib.hid hOo.sll
           have hs16 : w14.heap.size < w16.heap.size := by have := hb16.size; rw [World.size_alloc] at this; omega
           have hOc : (O.length = 0 ∧ a2 = 0) ∨ (O.length = 1 ∧ ∀ y ∈ O, y.1.rg = le) := (by
             by_cases h : le = []
             · left
               dsimp only at hO
               rw [if_pos h] at hO
               refine ⟨by have := congrArg List.length hO; rw [lns_len] at this; exact this, ?_⟩
               rw [← Hnu.out.ar2, h]
               unfold areaP
               split <;> rfl
             · right
               dsimp only at hO
               rw [if_neg h] at hO
               refine ⟨by have := congrArg List.length hO; rw [lns_len] at this; exact this, fun y hy => ?_⟩
               have := List.mem_map_of_mem (f := Prod.fst) hy
               have e : O.map Prod.fst = lns O := rfl
               rw [e, hO, List.mem_singleton] at this
               rw [this])
           have Hlo := Lib.hid hOc
           clear hb16 hOo hO hOc x0 x1 x2 x3 s0)
        | fail)
      have hw1 : IntKind.i64.wrap a2 = a2 := IntWalk.i64_in _ (by omega)
      have hw2 : wrap64 a2 = a2 := by unfold wrap64; omega
      have hw3 : IntKind.i64.wrap (a2 + mg) = a2 + mg := IntWalk.i64_in _ (by omega)
      have hOl : O.length ≤ 1 := by rcases Hlo.out with h | h <;> omega
      go_wp2
      go_loopw [27, 98] (fun cv jv wr => ∃ j : Nat, j ≤ O.length ∧ jv = .int .i64 (j : Int) ∧ cv = .int .i64 (if j = 0 then 0 else a2) ∧ Below w16.heap.size w16 wr) (fun _ jv _ => O.length - (intOf jv).toNat)
      case atStart => exact ⟨0, Nat.zero_le _, rfl, rfl, Below.refl _ _⟩
      case round =>
        obtain ⟨j, hj, rfl, rfl, hbz⟩ := hrel
        obtain ⟨wi, rfl⟩ : ∃ wi : World, wi = wr := ⟨_, rfl⟩
        have Hbz := Lib.hid hbz
        have hsz := hbz.size
        clear hbz
        by_cases hjO : j < O.length
        · obtain rfl : j = 0 := by omega
          have hjO' : (0 : Int) < (O.length : Int) := by omega
          obtain ⟨bo, oo, rfl, hbo, o0, o1, o2, o3, hSo⟩ := (HO.out.below Hbz.out).at 0 hjO
          have hyr : O[0].1.rg = le := by
            rcases Hlo.out with h | h
            · omega
            · exact h.2 _ (List.getElem_mem hjO)
          obtain ⟨y, hy⟩ : ∃ y, y = O[0] := ⟨_, rfl⟩
          rw [← hy] at o0 o1 o2 o3 hSo hyr
          rw [hyr, Hq.out] at hSo
          rw [hyr, Hq.out] at o1
          have HSo := Lib.hid hSo
          clear hSo hyr hy
          rw [Nat.zero_mul, Nat.add_zero] at o0
          rw [Nat.zero_mul, Nat.add_zero] at o1 o2 o3
          rw [if_pos rfl, show ((0 : Nat) : Int) = 0 from rfl]
          go_upto_region 19 with fail
          obtain ⟨w17, hw17⟩ : ∃ w17 : World, w17 = wi.alloc (.cells #[.int .i64 y.1.pc, .slice y.2.a q y.2.c, .int .i64 y.1.cr, .int .i64 y.1.sch] 35) := ⟨_, rfl⟩
          rw [← hw17]
          have HY17 : w17.heap[wi.heap.size]? = some (.cells #[.int .i64 y.1.pc, .slice y.2.a q y.2.c, .int .i64 y.1.cr, .int .i64 y.1.sch] 35 (0, 0)) := by rw [hw17]; exact heap_alloc_new wi _
          have Hb17 : Hid (Below wi.heap.size wi w17) := Lib.hid (by rw [hw17]; exact (by repeat' (first | with_reducible exact Below.refl _ _ | with_reducible refine below_drewN ?_ _ | with_reducible refine Below.drew ?_ | with_reducible refine Below.alloc ?_ ?_ _ | with_reducible refine Below.setCell ?_ ?_ _ | with_reducible refine Below.trans ?_ (Below.mono (by with_reducible assumption) ?_) | (simp; done) | (simp; omega) | omega)))
          have HSo17 := Lib.hid (HSo.out.below Hb17.out)
          have y1 := cell_of_row _ _ 1 _ _ _ HY17
          have hs17 := Hb17.out.size
          clear hw17 HY17 o0 o1 o2 o3
          go_upto_region 20 with (first
            | (go_at_call 11
               refine (HAr2.out _ _ _ _ HSo17.out).mono ?_
               rintro e w18 ⟨rfl, hb18⟩
               have Hb18 := Lib.hid (Hbz.out.trans ((Hb17.out.trans (hb18.mono hs17)).mono hsz))
               clear hb18 y1)
            | fail)
          go_wp2
          go_roundw
          case rel => exact ⟨1, by omega, rfl, by first | rfl | (simp; done), Hb18.out⟩
          case measure => simp [intOf]; omega
        · have hjO' : ¬ (j : Int) < (O.length : Int) := by omega
          have hcv : (if j = 0 then 0 else a2) = a2 := by
            rcases Hlo.out with h | h
            · rw [h.2]; split <;> rfl
            · rw [if_neg (by omega)]
          rw [hcv]
          have HK17 := Lib.hid ((Hbz.out.block K (by omega)).trans HK16.out)
          have k0 := cell_of_row _ _ 0 _ _ _ HK17.out
          have Hfin := Lib.hid (Hbw.out.trans ((Hb16.out.trans (Hbz.out.mono (by omega))).mono hsw))
          clear hcv
          rcases Hcs.out with ⟨rfl, h1⟩ | ⟨rfl, h1⟩ | ⟨rfl, h1, h2⟩
          · have g1 : ¬ a2 + mg < a := by omega
            have g2 : ¬ a2 < a := by omega
            have g1d : decide (a2 + mg < a) = false := decide_eq_false g1
            have g2d : decide (a2 < a) = false := decide_eq_false g2
            go_wp2
            go_roundw
            case rel => exact ⟨i + 1, by omega, by go_num, Hfin.out⟩
            case measure => simp [intOf]; omega
          · have g1 : a2 + mg < a := by omega
            have g1d : decide (a2 + mg < a) = true := decide_eq_true g1
            go_wp2
            go_roundw
            case rel => exact ⟨i + 1, by omega, by go_num, Hfin.out⟩
            case measure => simp [intOf]; omega
          · have g1 : ¬ a2 + mg < a := by omega
            have g1d : decide (a2 + mg < a) = false := decide_eq_false g1
            go_wp2
            go_roundw
            case rel => exact ⟨i + 1, by omega, by go_num, Hfin.out⟩
            case measure => simp [intOf]; omega
    · have hiR' : ¬ (i : Int) < (L.length : Int) := by omega
      go_wp2_with (first
        | (go_at_call 17
           refine (awakeT_any _).mono ?_
           rintro e w20 ⟨rfl, hb20⟩
           have Hb20 := Lib.hid (Hb3.out.trans ((Hbw.out.trans (hb20.mono hsw)).mono hs3))
           clear hb20)
        | fail)
      go_ret
      exact ⟨rfl, Hb20.out⟩
end Go.Proofs.YtfmkmhhghmdakaaGreatDoor
namespace Go.Proofs.YtfmkmhhghmdakaaGreatDoor
open Go.ChangeShapes Go.WideShapes Go.ChangeAt Go.RowKit
set_option linter.unusedVariables false

theorem open_lies {H : Type} {enc : TypeId × Value → H} {P : Program} {W : World} {r : Reach} {base : Nat} {t e : TypeId} {k : IntKind} {v : Value} {d : DataW H} {p : List MemPlace}
    (ht : P.underlying t = some (.slice e)) (he : P.underlying e = some (.int k)) (hC : P.cellsOf e = 1) (hv : Value.okWide P W r base t v) (h : DataW.Trod enc P W 0 (fun _ => true) true t v d p) :
    ∃ (A : Option Addr) (n c : Nat) (zs : List Int), v = .slice A n c ∧ zs.length = n ∧ (n ≤ c ∧ c ≤ maxLen) ∧ Lies W A n (zs.map (.int k)) ∧ ∀ z ∈ zs, (Lit.int k z).wf = true := by
  obtain ⟨A, n, c, rfl⟩ := okWide_slice ht hv
  obtain ⟨fuel, hf⟩ := h
  rcases open_ints ht he hC hf with ⟨hcs, _⟩ | ⟨x, l, c', zs, hcs, _, hl, hm, hz, _, hcell, hwz⟩
  · simp [Value.cells] at hcs
    obtain ⟨rfl, rfl, rfl⟩ := hcs
    exact ⟨none, 0, 0, [], rfl, rfl, ⟨Nat.le_refl _, Nat.zero_le _⟩, .inl rfl, fun z hz => by cases hz⟩
  · simp [Value.cells] at hcs
    obtain ⟨rfl, rfl, rfl⟩ := hcs
    have hz' : zs.length = c := by simpa using hz
    refine ⟨some x, n, c, zs.take n, rfl, by rw [List.length_take]; omega, ⟨hl, hm⟩, ?_, fun z hz => hwz z (List.mem_of_mem_take hz)⟩
    by_cases h0 : n = 0
    · exact .inl h0
    · obtain ⟨b, off, spot⟩ := x
      have hc0 := hcell 0 (by omega)
      have hspot : spot = none := by simpa [Addr.add] using World.cell?_spot hc0
      subst hspot
      have hb := World.block_lt_of_cell? W _ hc0
      rw [add_none] at hb
      refine .inr ⟨b, off, rfl, hb, fun j u hu => ?_⟩
      have hj : j < n := by
        rcases Nat.lt_or_ge j n with h | h
        · exact h
        · rw [List.getElem?_eq_none (by simp; omega)] at hu; cases hu
      have := hcell j (by omega)
      rw [add_none] at this
      rw [this]
      rw [List.getElem?_map, List.getElem?_take, if_pos hj] at hu
      rw [List.getElem?_eq_getElem (by omega)] at hu
      rw [List.getD_eq_getElem?_getD, List.getElem?_eq_getElem (by omega)]
      simpa using hu
end Go.Proofs.YtfmkmhhghmdakaaGreatDoor
