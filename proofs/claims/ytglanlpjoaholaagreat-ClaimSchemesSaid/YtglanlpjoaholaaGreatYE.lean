/- The walk of ClaimSchemes. -/
import Derived.Test.YtglanlpjoaholaaGreatYC
import Derived.Test.YtglanlpjoaholaaGreatYD
import Derived.Test.YtglanlpjoaholaaGreatY7
namespace Go.Proofs.YtglanlpjoaholaaGreat
open Go.RowKit Go.Shelf
set_option linter.unusedVariables false
set_option linter.unusedSimpArgs false

theorem lns_takeS {l : LL} {k : Nat} (h : k < l.length) : (lns l).take (k + 1) = (lns l).take k ++ [l[k].1] := by
  rw [List.take_succ_eq_append_getElem (by rw [lns_len]; exact h)]
  simp [lns]
set_option maxHeartbeats 8000000 in
set_option maxRecDepth 100000 in
theorem schemesLaw13 (A : Option Addr) (n c : Nat) (zs : List Int) (sc : Int) (w : World) (hn : zs.length = n) (hc : n ≤ c) (hm : c ≤ maxLen) (hw : ∀ z ∈ zs, (Lit.int .i64 z).wf = true) (hA : Lies w A n (zs.map (.int .i64))) (hsc : 0 ≤ sc ∧ sc ≤ 255) :
    Calls Tryz.prog 3 #[.slice A n c, .int .u8 sc] w fun e w' => e = .returned (.bool true) ∧ Below w.heap.size w w' := by
  have HN := Lib.hid (new_any A n c zs w hn hc hm hw hA)
  clear hn hc hm hw hA
  go_enter Tryz.func3, Tryz.ntmps3
  go_wp2_with fail
  refine HN.out.mono ?_
  rintro e w1 ⟨g, rfl, hwg, ht1, hb1⟩
  have Ht1 := Lib.hid ht1
  have Hb1 := Lib.hid hb1
  have hg1 := ht1.lt
  have hs1 := hb1.size
  clear ht1 hb1 HN
  go_wp2_with fail
  refine (crops_any g _ w1 Ht1.out).mono ?_
  rintro e w2 ⟨C, CA, cc, r2, rfl, hC, ht2, hg2, hCl, -⟩
  have Ht2 := Lib.hid ht2
  have Hg2 := Lib.hid hg2
  obtain ⟨nc, hnc⟩ : ∃ nc, C.length = nc := ⟨_, rfl⟩
  rw [hnc] at hCl ⊢
  clear hC ht2 hg2 Ht1 hnc
  go_wp2_with fail
  refine (lines_any g r2 CA nc cc 4 w2 Ht2.out (by omega) (Nat.le_refl _)).mono ?_
  rintro e w3 ⟨L, LA, lc, R, NA, kc, RA, rc, r3, k, rfl, hL, -, -, -, hg3, hpc, -, hok, hk4⟩
  have HSL := Lib.hid hL.sll
  have Hb3 : Hid (Below w.heap.size w w3) := Lib.hid (below_only Hb1.out (only_trans Hg2.out hg3) hwg hs1)
  have Hpc := Lib.hid hpc
  have Hok := Lib.hid hok
  have hLl : L.length ≤ 4 := by have := hok.len; rw [lns_len] at this; omega
  clear hL hg3 hpc hok Hg2 Ht2 Hb1
  go_upto_region 4 with fail
  obtain ⟨s, hs⟩ : ∃ s, sc % 16 = s := ⟨_, rfl⟩
  rw [hs]
  have hsb : 0 ≤ s ∧ s ≤ 15 := by omega
  clear hs
  have hs0 : ¬ s < 0 := by omega
  have Hcr := Lib.hid (chosen_reg Hpc.out Hok.out hk4 (bitP s))
  have Hlaw := Lib.hid (schemes_law Hpc.out Hok.out hk4 (bitP s))
  have hceq := claimed_eq Hpc.out Hok.out hk4 s hsb
  have Hbd := Lib.hid (fun t => sumA_bd (bitP s) (lns L) Hok.out.ok Hok.out.dis t)
  have HCl := Lib.hid (claimed_any LA L.length lc L s w3 HSL.out (Nat.le_trans Hcr.out.1 (by omega)))
  rw [hceq] at HCl
  clear hceq
  obtain ⟨a, ha⟩ : ∃ a, canonP (rectsP (bitP s) (lns L)) = a := ⟨_, rfl⟩
  rw [ha] at HCl Hlaw
  clear ha Hcr
  go_wp2_with fail
  refine HCl.out.mono ?_
  rintro e w4 ⟨v4, rfl, hown4, hb4⟩
  dsimp only at hown4 ⊢
  obtain ⟨D, dc, rfl, hD⟩ := SlR.of_own hown4
  have HD := Lib.hid hD
  have Hb4 := Lib.hid hb4
  have hs4 := hb4.size
  clear hown4 hb4 hD HCl
  go_upto_region 5 with fail
  obtain ⟨wb, hwb⟩ : ∃ wb : World, wb = w4.alloc (.cells #[.slice D a.length dc] 33) := ⟨_, rfl⟩
  rw [← hwb]
  have HZ : Hid (wb.heap[w4.heap.size]? = some (.cells #[.slice D a.length dc] 33 (0, 0))) := Lib.hid (by rw [hwb]; exact heap_alloc_new w4 _)
  have HDb : Hid (SlR wb D a.length dc a) := Lib.hid (by rw [hwb]; exact HD.out.alloc _)
  have Hb3b : Hid (Below w3.heap.size w3 wb) := Lib.hid (by rw [hwb]; exact Hb4.out.alloc hs4 _)
  have hlZ : w4.heap.size < wb.heap.size := by rw [hwb]; simp
  obtain ⟨Z, hZ⟩ : ∃ Z, w4.heap.size = Z := ⟨_, rfl⟩
  rw [hZ] at HZ hlZ ⊢
  clear hwb hZ HD Hb4
  have HSb := Lib.hid (HSL.out.below Hb3b.out)
  have hs3b := Hb3b.out.size
  have hs3 := Hb3.out.size
  have Hb0 := Lib.hid (Hb3.out.trans (Hb3b.out.mono hs3))
  clear HSL Hb3b Hb3
  go_wp2_with fail
  go_loopw [12, 36] (fun sv iv wr => ∃ t : Nat, t ≤ L.length ∧ iv = .int .i64 (t : Int) ∧ sv = .int .i64 (sumA (bitP s) ((lns L).take t)) ∧ Below wb.heap.size wb wr) (fun _ iv _ => L.length - (intOf iv).toNat)
  case atStart => exact ⟨0, Nat.zero_le _, rfl, rfl, Below.refl _ _⟩
  case round =>
    obtain ⟨t, ht, rfl, rfl, hbw⟩ := hrel
    have Hbw := Lib.hid hbw
    have hsw := hbw.size
    have z0 := cell_of_row wr Z 0 _ _ _ ((hbw.block _ hlZ).trans HZ.out)
    have HDr := Lib.hid (HDb.out.below hbw)
    clear hbw
    by_cases htl : t < L.length
    · have htl' : (t : Int) < (L.length : Int) := by omega
      have Hsn := Lib.hid (sumA_snoc (bitP s) ((lns L).take t) L[t].1)
      rw [← lns_takeS htl] at Hsn
      have hb1 := Hbd.out t
      have hb2 := Hbd.out (t + 1)
      have hmem : L[t].1 ∈ lns L := List.mem_map_of_mem (List.getElem_mem htl)
      have Hw := Lib.hid (Hlaw.out.2.1 L[t].1 hmem)
      have Hm := Lib.hid (Hlaw.out.2.2 L[t].1 hmem)
      obtain ⟨b2, o2, rfl, hb2', g0, g1, g2, g3, hS⟩ := (HSb.out.below Hbw.out).at t htl
      have HS := Lib.hid hS
      clear hS hmem
      generalize L[t] = y at *
      obtain ⟨⟨ypc, yrg, ycr, ysch⟩, ⟨ya, yc⟩⟩ := y
      dsimp only at *
      generalize sumA (bitP s) ((lns L).take t) = S0 at *
      have hrow := heap_alloc_new wr (.cells #[.int .i64 ypc, .slice ya yrg.length yc, .int .i64 ycr, .int .i64 ysch] 38)
      have Hba : Hid (Below wr.heap.size wr (wr.alloc (.cells #[.int .i64 ypc, .slice ya yrg.length yc, .int .i64 ycr, .int .i64 ysch] 38))) := Lib.hid (by repeat' (first | with_reducible exact Below.refl _ _ | with_reducible refine below_drewN ?_ _ | with_reducible refine Below.drew ?_ | with_reducible refine Below.alloc ?_ ?_ _ | with_reducible refine Below.setCell ?_ ?_ _ | with_reducible refine Below.trans ?_ (Below.mono (by with_reducible assumption) ?_) | (simp; done) | (simp; omega) | omega))
      have hla : wr.heap.size < (wr.alloc (.cells #[.int .i64 ypc, .slice ya yrg.length yc, .int .i64 ycr, .int .i64 ysch] 38)).heap.size := by simp
      go_upto_region 9 with fail
      obtain ⟨T, hT⟩ : ∃ T, wr.heap.size = T := ⟨_, rfl⟩
      rw [hT] at hrow hla ⊢
      generalize wr.alloc (.cells #[.int .i64 ypc, .slice ya yrg.length yc, .int .i64 ycr, .int .i64 ysch] 38) = wa at *
      have a1 := cell_of_row wa T 1 _ _ _ hrow
      have a3 := cell_of_row wa T 3 _ _ _ hrow
      have Hrow := Lib.hid hrow
      have hZr : Z < wr.heap.size := by omega
      have z1 := (Hba.out.cell (p := ⟨Z, 0, none⟩) hZr).trans z0
      have hsa := Hba.out.size
      have HSa := Lib.hid (HS.out.below Hba.out)
      have HDa := Lib.hid (HDr.out.below Hba.out)
      clear g0 g1 g2 g3 hrow z0
      cases hbit : bitP s ⟨ypc, yrg, ycr, ysch⟩ with
      | true =>
        rw [hbit, if_pos rfl] at Hsn
        have Hw1 := Lib.hid (Hw.out hbit)
        have hbe : (bits BinOp.and IntKind.i64 (ysch / 2 ^ s.toNat) 1 == 1) = true := hbit
        have hwr : IntKind.i64.wrap (S0 + areaP yrg) = S0 + areaP yrg := IntWalk.i64_in _ (by have := Hsn.out; omega)
        have HAr := Lib.hid (fun W (hW : Below wa.heap.size wa W) => areaR_any ya yrg.length yc yrg W (HSa.out.below hW))
        have HWi := Lib.hid (fun W (hW : Below wa.heap.size wa W) => withinR_any ya D yrg.length yc a.length dc yrg a W (HSa.out.below hW) (HDa.out.below hW))
        rw [Hw1.out] at HWi
        clear hbit Hw Hm Hw1
        generalize areaP yrg = ar at *
        go_wp2_with (first
          | (go_at_call 13
             refine (HAr.out _ (Below.refl _ _)).mono ?_
             rintro e w8 ⟨rfl, hb8⟩
             have a18 := cell_of_row w8 T 1 _ _ _ ((hb8.block _ hla).trans Hrow.out)
             have z8 := (hb8.cell (p := ⟨Z, 0, none⟩) (by show Z < _; omega)).trans z1
             have Hb8 := Lib.hid hb8
             clear hb8)
          | (go_at_call 14
             refine (HWi.out _ Hb8.out).mono ?_
             rintro e w9 ⟨rfl, hb9⟩
             have Hb9 := Lib.hid (Hb8.out.trans (hb9.mono Hb8.out.size))
             clear hb9)
          | fail)
        go_roundw
        case rel => exact ⟨t + 1, by omega, by go_num, by rw [Hsn.out], Hbw.out.trans ((Hba.out.trans (Hb9.out.mono hsa)).mono hsw)⟩
        case measure => simp [intOf]; omega
      | false =>
        rw [hbit, if_neg (by simp)] at Hsn
        have Hm1 := Lib.hid (Hm.out hbit)
        have hbe : (bits BinOp.and IntKind.i64 (ysch / 2 ^ s.toNat) 1 == 1) = false := hbit
        have HMe := Lib.hid (fun W (hW : Below wa.heap.size wa W) => meetsR_any ya D yrg.length yc a.length dc yrg a W (HSa.out.below hW) (HDa.out.below hW))
        rw [Hm1.out] at HMe
        clear hbit Hw Hm Hm1
        go_wp2_with (first
          | (go_at_call 15
             refine (HMe.out _ (Below.refl _ _)).mono ?_
             rintro e w9 ⟨rfl, hb9⟩
             have Hb9 := Lib.hid hb9
             clear hb9)
          | fail)
        go_roundw
        case rel => exact ⟨t + 1, by omega, by go_num, by rw [Hsn.out], Hbw.out.trans ((Hba.out.trans (Hb9.out.mono hsa)).mono hsw)⟩
        case measure => simp [intOf]; omega
    · obtain rfl : t = L.length := by omega
      have htl' : ¬ (L.length : Int) < (L.length : Int) := by omega
      have hfull : (lns L).take L.length = lns L := List.take_of_length_le (by rw [lns_len]; exact Nat.le_refl _)
      have heq := Hlaw.out.1
      rw [hfull, heq]
      have HAr := Lib.hid (areaR_any D a.length dc a wr HDr.out)
      clear hfull heq
      generalize areaP a = ar at *
      go_wp2_with (first
        | (go_at_call 13
           refine HAr.out.mono ?_
           rintro e w8 ⟨rfl, hb8⟩
           have Hb8 := Lib.hid hb8
           clear hb8)
        | (go_at_call 16
           refine (awake13_any _).mono ?_
           rintro e w9 ⟨rfl, hb9⟩
           have Hb9 := Lib.hid (Hb8.out.trans (hb9.mono Hb8.out.size))
           clear hb9)
        | fail)
      go_ret
      exact ⟨rfl, Hb0.out.trans ((Hbw.out.trans (Hb9.out.mono hsw)).mono (by omega))⟩
end Go.Proofs.YtglanlpjoaholaaGreat
