/- The walk of ClaimRests. -/
import Derived.Test.YtglanlpjoaholaaGreatYI
import Derived.Test.YtglanlpjoaholaaGreatQ
namespace Go.Proofs.YtglanlpjoaholaaGreat
open Go.RowKit Go.Shelf
set_option linter.unusedVariables false
set_option linter.unusedSimpArgs false

theorem lns_takeT {l : LL} {k : Nat} (h : k < l.length) : (lns l).take (k + 1) = (lns l).take k ++ [l[k].1] := by
  rw [List.take_succ_eq_append_getElem (by rw [lns_len]; exact h)]
  simp [lns]
set_option maxHeartbeats 8000000 in
set_option maxRecDepth 100000 in
theorem restsLaw13 (A : Option Addr) (n c : Nat) (zs : List Int) (w : World) (hn : zs.length = n) (hc : n ≤ c) (hm : c ≤ maxLen) (hw : ∀ z ∈ zs, (Lit.int .i64 z).wf = true) (hA : Lies w A n (zs.map (.int .i64))) :
    Calls Tryz.prog 5 #[.slice A n c] w fun e w' => e = .returned (.bool true) ∧ Below w.heap.size w w' := by
  have HN := Lib.hid (new_any A n c zs w hn hc hm hw hA)
  clear hn hc hm hw hA
  go_enter Tryz.func5, Tryz.ntmps5
  go_wp2_with fail
  refine HN.out.mono ?_
  rintro e w1 ⟨g, rfl, hwg, ht1, hb1⟩
  have Ht1 := Lib.hid ht1
  have Hb1 := Lib.hid hb1
  have hg1 := ht1.lt
  have hs1 := hb1.size
  clear ht1 hb1 HN
  go_wp2_with fail
  refine (crops_any g _ w1 Ht1.out).mono ?_
  rintro e w2 ⟨C, CA, cc, r2, rfl, hC, ht2, hg2, hCl, hCb⟩
  have Ht2 := Lib.hid ht2
  have Hg2 := Lib.hid hg2
  have HC := Lib.hid hC
  have Hco := Lib.hid (cpK_ok C hCl.2 hCb)
  have Hcc := Lib.hid (cpK_cells C 0 (by omega))
  have Hcl := Lib.hid (cpK_len C 0)
  obtain ⟨nc, hnc⟩ : ∃ nc, C.length = nc := ⟨_, rfl⟩
  rw [hnc] at hCl HC Hcl ⊢
  clear hC ht2 hg2 Ht1 hnc hCb
  go_wp2_with fail
  refine (lines_any g r2 CA nc cc 4 w2 Ht2.out (by omega) (Nat.le_refl _)).mono ?_
  rintro e w3 ⟨L, LA, lc, R, NA, kc, RA, rc, r3, k, rfl, hL, hnu, hRo, -, hg3, hpc, hm1, hok, hk4⟩
  have HSL := Lib.hid hL.sll
  have HSR := Lib.hid hRo.slg
  have HSN : Hid (SlI w3 NA R.length kc (nums R.length)) := Lib.hid (by
    obtain ⟨A', c', e, h1, h2, h3⟩ := own_slice hnu
    injection e with e1 e2 e3
    subst e1 e3
    exact ⟨nums_len _, h2, h3, h1⟩)
  have HSC : Hid (SlC w3 CA nc cc (cpK 0 C)) := Lib.hid (by
    obtain ⟨A', c', e, h1, h2, h3⟩ := own_slice (ownsRow_only HC.out hg3 hg1)
    injection e with e1 e2 e3
    subst e1 e3
    exact ⟨Hcl.out, h2, h3, by rw [← Hcc.out]; exact h1⟩)
  have Hb3 : Hid (Below w.heap.size w w3) := Lib.hid (below_only Hb1.out (only_trans Hg2.out hg3) hwg hs1)
  have hR3 : R.length ≤ 3 := by have := hpc.m; rwa [rgs_len] at this
  have HPV : Hid (PcV w3 NA R.length kc (nums R.length) RA rc R CA nc cc (cpK 0 C)) := Lib.hid ⟨HSN.out, HSR.out, HSC.out, by omega, nums_sorted _, fun x hx => by
    obtain ⟨i, hi, rfl⟩ := List.getElem_of_mem hx
    have e : (rgs R)[i]'(by rw [rgs_len]; exact hi) = R[i].1 := by simp [rgs]
    have := (hpc.at' i (by rw [rgs_len]; exact hi)).reg (by omega)
    rw [e] at this
    exact this.valid (by omega) (by omega), Hco.out⟩
  have Hpc := Lib.hid hpc
  have Hok := Lib.hid hok
  have hLl : L.length ≤ 4 := by have := hok.len; rw [lns_len] at this; omega
  have HAll := Lib.hid (allC_any LA L.length lc L NA R.length kc (nums R.length) RA rc R CA nc cc (cpK 0 C) 31 w3 HSL.out HPV.out (fun x hx => (hok.ok x.1 (List.mem_map_of_mem hx)).fine hpc) (by omega) L.length (Nat.le_refl _) (fun i h _ => hok.apart i h) (.inl rfl) (-1) 0 (by simp))
  clear hL hnu hRo hg3 hpc hok Hg2 Ht2 Hb1 HPV HSC HC Hcc Hcl Hco
  have hs3 := Hb3.out.size
  go_wp2_with fail
  refine HAll.out.mono ?_
  rintro e w4 ⟨rfl, hb4⟩
  have HSL4 := Lib.hid (HSL.out.below hb4)
  have HSR4 := Lib.hid (HSR.out.below hb4)
  have HSN4 := Lib.hid (HSN.out.below hb4)
  have Hb0 := Lib.hid (Hb3.out.trans (hb4.mono hs3))
  have hs04 := Hb0.out.size
  clear hb4 HAll HSL HSR HSN Hb3
  go_wp2_with fail
  go_loopw [10, 11, 13, 14, 44, 65] (fun _ _ _ _ iv _ wr => ∃ i : Nat, i ≤ R.length ∧ iv = .int .i64 (i : Int) ∧ Below w4.heap.size w4 wr) (fun _ _ _ _ iv _ _ => R.length - (intOf iv).toNat)
  case atStart => exact ⟨0, Nat.zero_le _, rfl, Below.refl _ _⟩
  case round =>
    obtain ⟨i, hi, rfl, hbw⟩ := hrel
    obtain ⟨wo, rfl⟩ : ∃ wo : World, wo = wr := ⟨_, rfl⟩
    have Hbw := Lib.hid hbw
    have hsw := hbw.size
    clear hbw
    by_cases hiR : i < R.length
    · have hiR' : (i : Int) < (R.length : Int) := by omega
      obtain ⟨br, or, rfl, hbr, cR, hSk⟩ := (HSR4.out.below Hbw.out).at i hiR
      obtain ⟨bn, on, rfl, hbn, cN⟩ := (HSN4.out.below Hbw.out).at i (by rw [nums_len]; exact hiR)
      rw [nums_get] at cN
      have HSk := Lib.hid hSk
      have hip : i < (rgs R).length := by rw [rgs_len]; exact hiR
      have e2 : (rgs R)[i]'hip = R[i].1 := by simp [rgs]
      have hreq := rest_eq Hpc.out Hok.out hk4 ((i : Int) + 1) hip
      have hlaw := rests_law Hpc.out Hok.out hk4 hip
      have hRr := (Hpc.out.at' i hip).reg (by omega)
      rw [e2] at hreq hlaw hRr
      have Hrl2 := Lib.hid (Nat.le_trans (chosen_reg Hpc.out Hok.out hk4 (onP ((i : Int) + 1))).1 (by omega : 480 ≤ 750))
      have Hbd := Lib.hid (fun t => sumA_bd (onP ((i : Int) + 1)) (lns L) Hok.out.ok Hok.out.dis t)
      have HR1 := Lib.hid (restC_any LA L.length lc L ((i : Int) + 1) R[i].2.a R[i].1.length R[i].2.c R[i].1 wo (HSL4.out.below Hbw.out) HSk.out Hrl2.out)
      rw [hreq] at HR1
      obtain ⟨b, hb⟩ : ∃ b, chooseP notB R[i].1 (rectsP (onP ((i : Int) + 1)) (lns L)) = b := ⟨_, rfl⟩
      rw [hb] at HR1 hlaw
      have hAr0 := (left_reg Hpc.out Hok.out hk4 (onP ((i : Int) + 1)) hip).1.cnt (by omega)
      rw [e2, hb] at hAr0
      have hAr : 0 ≤ areaP b ∧ areaP b ≤ 900 := by rw [hAr0]; exact cnt_bd _
      have Hlaw := Lib.hid hlaw
      have hAb : 0 ≤ areaP R[i].1 ∧ areaP R[i].1 ≤ 900 := by rw [hRr.cnt (by omega)]; exact cnt_bd _
      clear hAr0 hb hreq hlaw hRr e2 hSk hip Hrl2
      obtain ⟨rk, hrk⟩ : ∃ rk, R[i] = rk := ⟨_, rfl⟩
      rw [hrk] at cR HR1 HSk Hlaw hAb
      clear hrk
      go_upto_region 10 with fail
      go_upto_region 11 with (first
        | (go_at_call 17
           refine HR1.out.mono ?_
           rintro e w5 ⟨v5, rfl, hown5, hb5⟩
           dsimp only at hown5 ⊢
           obtain ⟨D, dc, rfl, hD⟩ := SlR.of_own hown5
           have HD := Lib.hid hD
           have Hb5 := Lib.hid hb5
           have hs5 := hb5.size
           clear hown5 hb5 hD)
        | fail)
      obtain ⟨w6, hw6⟩ : ∃ w6 : World, w6 = w5.alloc (.cells #[.slice D b.length dc] 33) := ⟨_, rfl⟩
      rw [← hw6]
      have HZ : Hid (w6.heap[w5.heap.size]? = some (.cells #[.slice D b.length dc] 33 (0, 0))) := Lib.hid (by rw [hw6]; exact heap_alloc_new w5 _)
      have HD6 : Hid (SlR w6 D b.length dc b) := Lib.hid (by rw [hw6]; exact HD.out.alloc _)
      have Hb6 : Hid (Below wo.heap.size wo w6) := Lib.hid (by rw [hw6]; exact Hb5.out.alloc hs5 _)
      have hlZ : w5.heap.size < w6.heap.size := by rw [hw6]; simp
      obtain ⟨Z, hZ⟩ : ∃ Z, w5.heap.size = Z := ⟨_, rfl⟩
      rw [hZ] at HZ hlZ ⊢
      clear hw6 hZ HD Hb5 hs5 cN
      have hs6 := Hb6.out.size
      have z0 := cell_of_row w6 Z 0 _ _ _ HZ.out
      have HA1 := Lib.hid (areaR_any D b.length dc b w6 HD6.out)
      have hSum := Hlaw.out.1
      have hS0 := Hbd.out L.length
      have hfull : (lns L).take L.length = lns L := List.take_of_length_le (by rw [lns_len]; exact Nat.le_refl _)
      rw [hfull] at hS0
      go_wp2_with fail
      refine HA1.out.mono ?_
      rintro e w7 ⟨rfl, hb7⟩
      have hs7 := hb7.size
      have HZ7 := Lib.hid ((hb7.block _ hlZ).trans HZ.out)
      have HD7 := Lib.hid (HD6.out.below hb7)
      have Hbo7 := Lib.hid (Hb6.out.trans (hb7.mono hs6))
      have HSL7 := Lib.hid (HSL4.out.below (Hbw.out.trans (Hbo7.out.mono hsw)))
      have hlZ7 : Z < w7.heap.size := by omega
      have hso7 := Hbo7.out.size
      have cR7 := (Hbo7.out.cell (p := ⟨br, or + i, none⟩) hbr).trans cR
      have HSk7 := Lib.hid (HSk.out.below Hbo7.out)
      clear z0 hb7 HA1 HZ HD6 cR
      go_wp2_with fail
      go_loopw [14, 65] (fun sv jv wr => ∃ t : Nat, t ≤ L.length ∧ jv = .int .i64 (t : Int) ∧ sv = .int .i64 (areaP b + sumA (onP ((i : Int) + 1)) ((lns L).take t)) ∧ Below w7.heap.size w7 wr) (fun _ jv _ => L.length - (intOf jv).toNat)
      case atStart => exact ⟨0, Nat.zero_le _, rfl, by simp [sumA], Below.refl _ _⟩
      case round =>
        obtain ⟨t, ht, rfl, rfl, hbt⟩ := hrel
        have Hbt := Lib.hid hbt
        have hst := hbt.size
        have z0 := cell_of_row wr Z 0 _ _ _ ((hbt.block _ hlZ7).trans HZ7.out)
        have HDr := Lib.hid (HD7.out.below hbt)
        clear hbt
        by_cases htl : t < L.length
        · have htl' : (t : Int) < (L.length : Int) := by omega
          have Hsn := Lib.hid (sumA_snoc (onP ((i : Int) + 1)) ((lns L).take t) L[t].1)
          rw [← lns_takeT htl] at Hsn
          have hb1 := Hbd.out t
          have hb2 := Hbd.out (t + 1)
          have Hm := Lib.hid (Hlaw.out.2.2 L[t].1 (List.mem_map_of_mem (List.getElem_mem htl)))
          obtain ⟨b2, o2, rfl, hb2', g0, g1, g2, g3, hS⟩ := (HSL7.out.below Hbt.out).at t htl
          have HS := Lib.hid hS
          clear hS
          generalize L[t] = y at *
          obtain ⟨⟨ypc, yrg, ycr, ysch⟩, ⟨ya, yc⟩⟩ := y
          dsimp only at *
          generalize sumA (onP ((i : Int) + 1)) ((lns L).take t) = S0 at *
          have hrow := heap_alloc_new wr (.cells #[.int .i64 ypc, .slice ya yrg.length yc, .int .i64 ycr, .int .i64 ysch] 38)
          have Hba : Hid (Below wr.heap.size wr (wr.alloc (.cells #[.int .i64 ypc, .slice ya yrg.length yc, .int .i64 ycr, .int .i64 ysch] 38))) := Lib.hid (by repeat' (first | with_reducible exact Below.refl _ _ | with_reducible refine below_drewN ?_ _ | with_reducible refine Below.drew ?_ | with_reducible refine Below.alloc ?_ ?_ _ | with_reducible refine Below.setCell ?_ ?_ _ | with_reducible refine Below.trans ?_ (Below.mono (by with_reducible assumption) ?_) | (simp; done) | (simp; omega) | omega))
          have hla : wr.heap.size < (wr.alloc (.cells #[.int .i64 ypc, .slice ya yrg.length yc, .int .i64 ycr, .int .i64 ysch] 38)).heap.size := by simp
          go_upto_region 17 with fail
          obtain ⟨T, hT⟩ : ∃ T, wr.heap.size = T := ⟨_, rfl⟩
          rw [hT] at hrow hla ⊢
          generalize wr.alloc (.cells #[.int .i64 ypc, .slice ya yrg.length yc, .int .i64 ycr, .int .i64 ysch] 38) = wa at *
          have a0 := cell_of_row wa T 0 _ _ _ hrow
          have a1 := cell_of_row wa T 1 _ _ _ hrow
          have Hrow := Lib.hid hrow
          have hZr : Z < wr.heap.size := by omega
          have z1 := (Hba.out.cell (p := ⟨Z, 0, none⟩) hZr).trans z0
          have hsa := Hba.out.size
          have HSa := Lib.hid (HS.out.below Hba.out)
          have HDa := Lib.hid (HDr.out.below Hba.out)
          clear g0 g1 g2 g3 hrow z0
          by_cases hpe : ypc = (i : Int) + 1
          · have hon : onP ((i : Int) + 1) ⟨ypc, yrg, ycr, ysch⟩ = true := by simp [onP, hpe]
            rw [hon, if_pos rfl] at Hsn
            have Hm1 := Lib.hid (Hm.out hon)
            have hwr : IntKind.i64.wrap (areaP b + S0 + areaP yrg) = areaP b + S0 + areaP yrg := IntWalk.i64_in _ (by have := Hsn.out; omega)
            have HAr := Lib.hid (fun W (hW : Below wa.heap.size wa W) => areaR_any ya yrg.length yc yrg W (HSa.out.below hW))
            have HMe := Lib.hid (fun W (hW : Below wa.heap.size wa W) => meetsR_any D ya b.length dc yrg.length yc b yrg W (HDa.out.below hW) (HSa.out.below hW))
            rw [Hm1.out] at HMe
            have Hsn2 : Hid (areaP b + sumA (onP ((i : Int) + 1)) ((lns L).take (t + 1)) = areaP b + S0 + areaP yrg) := Lib.hid (by rw [Hsn.out]; omega)
            clear hon Hm Hm1 Hsn
            generalize areaP yrg = ar at *
            go_wp2_with (first
              | (go_at_call 13
                 refine (HAr.out _ (Below.refl _ _)).mono ?_
                 rintro e w8 ⟨rfl, hb8⟩
                 have a18 := cell_of_row w8 T 1 _ _ _ ((hb8.block _ hla).trans Hrow.out)
                 have z8 := (hb8.cell (p := ⟨Z, 0, none⟩) (by show Z < _; omega)).trans z1
                 have Hb8 := Lib.hid hb8
                 clear hb8)
              | (go_at_call 15
                 refine (HMe.out _ Hb8.out).mono ?_
                 rintro e w9 ⟨rfl, hb9⟩
                 have Hb9 := Lib.hid (Hb8.out.trans (hb9.mono Hb8.out.size))
                 clear hb9)
              | fail)
            go_roundw
            case rel => exact ⟨t + 1, by omega, by go_num, by rw [Hsn2.out], Hbt.out.trans ((Hba.out.trans (Hb9.out.mono hsa)).mono hst)⟩
            case measure => simp [intOf]; omega
          · have hon : onP ((i : Int) + 1) ⟨ypc, yrg, ycr, ysch⟩ = false := by simp [onP, hpe]
            rw [hon, if_neg (by simp)] at Hsn
            clear hon Hm
            go_wp2
            go_roundw
            case rel => exact ⟨t + 1, by omega, by go_num, by rw [Hsn.out], Hbt.out.trans (Hba.out.mono hst)⟩
            case measure => simp [intOf]; omega
        · obtain rfl : t = L.length := by omega
          have htl' : ¬ (L.length : Int) < (L.length : Int) := by omega
          rw [hfull, hSum]
          have HAk := Lib.hid (fun W (hW : Below wr.heap.size wr W) => areaR_any rk.2.a rk.1.length rk.2.c rk.1 W ((HSk7.out.below Hbt.out).below hW))
          have HWk := Lib.hid (fun W (hW : Below wr.heap.size wr W) => withinR_any D rk.2.a b.length dc rk.1.length rk.2.c b rk.1 W (HDr.out.below hW) ((HSk7.out.below Hbt.out).below hW))
          rw [Hlaw.out.2.1] at HWk
          have cRr := (Hbt.out.cell (p := ⟨br, or + i, none⟩) (by show br < w7.heap.size; omega)).trans cR7
          have hbrr : br < wr.heap.size := by omega
          have hZrr : Z < wr.heap.size := by omega
          clear cR7 hfull hSum hS0 hAb hAr
          generalize areaP rk.1 = ar at *
          go_upto_region 22 with fail
          refine wp_region_below (W := wr) wr.heap.size (Nat.le_refl _) (by kernel_rfl) (by kernel_rfl) ?_
          intro I _ F hFc hFb hFs
          repeat (go_big_quiet_step ((first
            | (go_at_call 13; with_reducible exact class_call hFb hFs (Nat.le_refl _) (HAk.out _ (hFb _)))
            | (go_at_call 14; with_reducible exact class_call hFb hFs (Nat.le_refl _) (HWk.out _ (hFb _))))))
          refine wpQuiet_nil ?_
          rintro _ ⟨iq, rfl⟩
          go_wp2
          go_roundw
          case rel => exact ⟨i + 1, by omega, by go_num, Hbw.out.trans ((Hbo7.out.trans ((Hbt.out.trans ((hFb iq).mono (by omega))).mono (by omega))).mono hsw)⟩
          case measure => simp [intOf]; omega
    · obtain rfl : i = R.length := by omega
      have hiR' : ¬ (R.length : Int) < (R.length : Int) := by omega
      go_wp2_with fail
      refine (awake13_any _).mono ?_
      rintro e w9 ⟨rfl, hb9⟩
      go_wp2
      go_ret
      exact ⟨rfl, Hb0.out.trans ((Hbw.out.trans (hb9.mono hsw)).mono hs04)⟩
end Go.Proofs.YtglanlpjoaholaaGreat
