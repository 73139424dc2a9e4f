/- The walk of ClaimClips. -/
/- ClaimClips: for every input the law returns true, and each argument reads as before: proved of the given program for any arguments that can be read. -/
import Derived.Test.YtglanlpjoaholaaGreatYL
import Derived.Test.YtglanlpjoaholaaGreatOq
import Derived.ProofKit
import Derived.OpenShut
import Derived.ChangeOld
import Derived.Below
namespace Go.Proofs.YtglanlpjoaholaaGreat
open Go.RowKit Go.Shelf
set_option linter.unusedVariables false
set_option linter.unusedSimpArgs false

theorem clips_at {a : List R4} {L : List Ln} {i : Nat} (h : i < L.length) (hne : (chooseP andB L[i].rg a).length ≠ 0) : (clipsP a L)[(clipsP a (L.take i)).length]? = some ⟨L[i].pc, chooseP andB L[i].rg a, L[i].cr, L[i].sch⟩ := by
  have e : L = L.take i ++ ([L[i]] ++ L.drop (i + 1)) := by
    rw [List.singleton_append, List.getElem_cons_drop, List.take_append_drop]
  have e2 : clipsP a L = clipsP a (L.take i) ++ (clipsP a [L[i]] ++ clipsP a (L.drop (i + 1))) := by
    rw [← clipsP_app, ← clipsP_app, ← e]
  have e3 : clipsP a [L[i]] = [⟨L[i].pc, chooseP andB L[i].rg a, L[i].cr, L[i].sch⟩] := by
    simp only [clipsP, if_neg hne, List.append_nil]
  rw [e2, e3, List.getElem?_append_right (Nat.le_refl _), Nat.sub_self]
  rfl
theorem lns_takeU {l : LL} {k : Nat} (h : k < l.length) : lns (l.take (k + 1)) = lns (l.take k) ++ [l[k].1] := by
  unfold lns
  rw [List.take_succ_eq_append_getElem h, List.map_append]
  rfl
set_option maxHeartbeats 8000000 in
set_option maxRecDepth 100000 in
theorem clipsLaw13 (A : Option Addr) (n c : Nat) (zs : List Int) (w : World) (hn : zs.length = n) (hc : n ≤ c) (hm : c ≤ maxLen) (hw : ∀ z ∈ zs, (Lit.int .i64 z).wf = true) (hA : Lies w A n (zs.map (.int .i64))) :
    Calls Tryz.prog 7 #[.slice A n c] w fun e w' => e = .returned (.bool true) ∧ Below w.heap.size w w' := by
  have HN := Lib.hid (new_any A n c zs w hn hc hm hw hA)
  clear hn hc hm hw hA
  go_enter Tryz.func7, Tryz.ntmps7
  go_wp2_with fail
  refine HN.out.mono ?_
  rintro e w1 ⟨g, rfl, hwg, ht1, hb1⟩
  have Ht1 := Lib.hid ht1
  have Hb1 := Lib.hid hb1
  have hg1 := ht1.lt
  have hs1 := hb1.size
  clear ht1 hb1 HN
  go_wp2_with fail
  refine (crops_any g _ w1 Ht1.out).mono ?_
  rintro e w2 ⟨C, CA, cc, r2, rfl, hC, ht2, hg2, hCl, hCb⟩
  have Ht2 := Lib.hid ht2
  have Hg2 := Lib.hid hg2
  have HC := Lib.hid hC
  have Hco := Lib.hid (cpK_ok C hCl.2 hCb)
  have Hcc := Lib.hid (cpK_cells C 0 (by omega))
  have Hcl := Lib.hid (cpK_len C 0)
  obtain ⟨nc, hnc⟩ : ∃ nc, C.length = nc := ⟨_, rfl⟩
  rw [hnc] at hCl HC Hcl ⊢
  clear hC ht2 hg2 Ht1 hnc hCb
  go_wp2_with fail
  refine (lines_any g r2 CA nc cc 4 w2 Ht2.out (by omega) (Nat.le_refl _)).mono ?_
  rintro e w3 ⟨L, LA, lc, R, NA, kc, RA, rc, r3, k, rfl, hL, hnu, hRo, ht3, hg3, hpc, hm1, hok, hk4⟩
  have hgw2 : g < w2.heap.size := Nat.lt_of_lt_of_le hg1 Hg2.out.size
  have Hb3 : Hid (Below w.heap.size w w3) := Lib.hid (below_only Hb1.out (only_trans Hg2.out hg3) hwg hs1)
  have hs3 := Hb3.out.size
  have hR3 : R.length ≤ 3 := by have := hpc.m; rwa [rgs_len] at this
  have Hpc := Lib.hid hpc
  have Hok := Lib.hid hok
  have hLl : L.length ≤ 4 := by have := hok.len; rw [lns_len] at this; omega
  have Hg3 := Lib.hid hg3
  have HL3 := Lib.hid hL
  have Hnu3 := Lib.hid hnu
  have HRo3 := Lib.hid hRo
  have Ht3 := Lib.hid ht3
  have HReg0 := Lib.hid (mkReg_reg r3 20 4 (by omega) (by omega) (by omega) (by omega))
  clear hL hnu hRo hg3 hpc hok ht3 Ht2
  go_upto_region 5 with (first
    | (go_at_call 20
       refine (region_any g r3 20 4 _ Ht3.out (by omega) (by omega)).mono ?_
       rintro e w4 ⟨v4, rfl, hown4, -, hg4⟩
       obtain ⟨a, ha⟩ : ∃ a, (mkReg r3 20 4).1 = a := ⟨_, rfl⟩
       rw [ha] at hown4 HReg0
       obtain ⟨D, dc, rfl, hD⟩ := SlR.of_own hown4
       have HD := Lib.hid hD
       have Hg4 := Lib.hid hg4
       clear hown4 ha hD hg4)
    | fail)
  have Hb4 : Hid (Below w.heap.size w w4) := Lib.hid (below_only Hb1.out (only_trans (only_trans Hg2.out Hg3.out) Hg4.out) hwg hs1)
  have HSL4 := Lib.hid (HL3.out.only Hg4.out hgw2).sll
  have HPV4 : Hid (PcV w4 NA R.length kc (nums R.length) RA rc R CA nc cc (cpK 0 C)) := Lib.hid ⟨by
    obtain ⟨A', c', e, h1, h2, h3⟩ := own_slice (ownsRow_only Hnu3.out Hg4.out hgw2)
    injection e with e1 e2 e3
    subst e1 e3
    exact ⟨nums_len _, h2, h3, h1⟩, (HRo3.out.only Hg4.out hgw2).slg, by
    obtain ⟨A', c', e, h1, h2, h3⟩ := own_slice (ownsRow_only (ownsRow_only HC.out Hg3.out hg1) Hg4.out hg1)
    injection e with e1 e2 e3
    subst e1 e3
    exact ⟨Hcl.out, h2, h3, by rw [← Hcc.out]; exact h1⟩, by omega, nums_sorted _, fun x hx => by
    obtain ⟨i, hi, rfl⟩ := List.getElem_of_mem hx
    have e : (rgs R)[i]'(by rw [rgs_len]; exact hi) = R[i].1 := by simp [rgs]
    have := (Hpc.out.at' i (by rw [rgs_len]; exact hi)).reg (by omega)
    rw [e] at this
    exact this.valid (by omega) (by omega), Hco.out⟩
  clear Hcl Hcc Hco HC HL3 Hnu3 HRo3 Ht3 Hg4 Hg3 Hg2 Hb1 hgw2 Hb3
  obtain ⟨w5, hw5⟩ : ∃ w5 : World, w5 = w4.alloc (.cells #[.slice D a.length dc] 33) := ⟨_, rfl⟩
  rw [← hw5]
  have HPr : Hid (w5.heap[w4.heap.size]? = some (.cells #[.slice D a.length dc] 33 (0, 0))) := Lib.hid (by rw [hw5]; exact heap_alloc_new w4 _)
  have Hb45 : Hid (Below w4.heap.size w4 w5) := Lib.hid (by rw [hw5]; exact (by repeat' (first | with_reducible exact Below.refl _ _ | with_reducible refine below_drewN ?_ _ | with_reducible refine Below.drew ?_ | with_reducible refine Below.alloc ?_ ?_ _ | with_reducible refine Below.setCell ?_ ?_ _ | with_reducible refine Below.trans ?_ (Below.mono (by with_reducible assumption) ?_) | (simp; done) | (simp; omega) | omega)))
  have hlP : w4.heap.size < w5.heap.size := by rw [hw5]; simp
  have hs4 := Hb4.out.size
  have Hb5 : Hid (Below w.heap.size w w5) := Lib.hid (Hb4.out.trans (Hb45.out.mono hs4))
  have hs5 := Hb5.out.size
  obtain ⟨P, hP⟩ : ∃ P, w4.heap.size = P := ⟨_, rfl⟩
  rw [hP] at HPr hlP ⊢
  have HSL := Lib.hid (HSL4.out.below Hb45.out)
  have HPV := Lib.hid (HPV4.out.below Hb45.out)
  have HD5 := Lib.hid (HD.out.below Hb45.out)
  clear hw5 hP HSL4 HPV4 HD Hb45 Hb4 hs4 hs3
  have Hlaw := Lib.hid (clips_law Hpc.out Hok.out hk4 HReg0.out (by decide))
  have HCl1 := Lib.hid (clipC_any LA L.length lc L D a.length dc a w5 HSL.out HD5.out)
  rw [Hlaw.out.1] at HCl1
  have p0 := cell_of_row w5 P 0 _ _ _ HPr.out
  go_wp2_with fail
  refine HCl1.out.mono ?_
  rintro e w6 ⟨O, OA, oc, rfl, hO, hOwn, hb6⟩
  dsimp only at hO ⊢
  have HO := Lib.hid hO
  have HSO6 := Lib.hid hOwn.sll
  have Hb6 := Lib.hid hb6
  have hs6 := hb6.size
  have p1 := cell_of_row w6 P 0 _ _ _ ((hb6.block P hlP).trans HPr.out)
  have HCl2 := Lib.hid (clipC_any OA O.length oc O D a.length dc a w6 HSO6.out (HD5.out.below hb6))
  rw [hO, Hlaw.out.2.1] at HCl2
  have hOl : O.length ≤ 4 := by have h := Hlaw.out.2.2.2.2.1; rw [← hO, lns_len] at h; exact h
  clear hO hOwn hb6 p0 HCl1
  go_wp2_with fail
  refine HCl2.out.mono ?_
  rintro e w7 ⟨O2, OB, od, rfl, hO2, hOwn2, hb7⟩
  dsimp only at hO2 ⊢
  have HO2 := Lib.hid hO2
  have HSO2 := Lib.hid hOwn2.sll
  have Hb7 := Lib.hid (Hb6.out.trans (hb7.mono hs6))
  have hs7 : w5.heap.size ≤ w7.heap.size := Hb7.out.size
  have HSO7 := Lib.hid (HSO6.out.below hb7)
  clear hO2 hOwn2 hb7 p1 HCl2 HSO6 Hb6
  have HAll := Lib.hid (allC_any OA O.length oc O NA R.length kc (nums R.length) RA rc R CA nc cc (cpK 0 C) 31 w7 HSO7.out (HPV.out.below Hb7.out) (fun x hx => (Hlaw.out.2.2.1 x.1 (by rw [← HO.out]; exact List.mem_map_of_mem hx)).fine Hpc.out) (by omega) O.length (Nat.le_refl _) (fun i h _ => apart_of (fun x hx => Hlaw.out.2.2.1 x (by rw [← HO.out]; exact hx)) (by rw [HO.out]; exact Hlaw.out.2.2.2.1) i h) (.inl rfl) (-1) 0 (by simp))
  go_wp2_with fail
  refine HAll.out.mono ?_
  rintro e w8 ⟨rfl, hb8⟩
  have HSm := Lib.hid (sameL_any OA O.length oc O OB O2.length od O2 w8 (HSO7.out.below hb8) (HSO2.out.below hb8) (HO.out.trans HO2.out.symm))
  have Hb8 := Lib.hid (Hb7.out.trans (hb8.mono hs7))
  have hs8 : w5.heap.size ≤ w8.heap.size := Hb8.out.size
  have HSO8 := Lib.hid (HSO7.out.below hb8)
  clear hb8 HAll HSO2 HO2 HSO7 Hb7 HPV
  go_wp2_with (first
    | (go_at_call 22
       refine HSm.out.mono ?_
       rintro e w9 ⟨rfl, hb9⟩
       have Hb9 := Lib.hid (Hb8.out.trans (hb9.mono hs8))
       have hs9 : w5.heap.size ≤ w9.heap.size := Hb9.out.size
       have HSO := Lib.hid (HSO8.out.below hb9)
       clear hb9 HSm)
    | fail)
  go_loopw [15, 17, 18, 19, 75] (fun kv _ _ _ iv wr => ∃ i : Nat, i ≤ L.length ∧ iv = .int .i64 (i : Int) ∧ kv = .int .i64 ((clipsP a (lns (L.take i))).length : Int) ∧ (clipsP a (lns (L.take i))).length ≤ i ∧ Below w9.heap.size w9 wr) (fun _ _ _ _ iv _ => L.length - (intOf iv).toNat)
  case atStart => exact ⟨0, Nat.zero_le _, rfl, rfl, Nat.zero_le _, Below.refl _ _⟩
  case round =>
    obtain ⟨i, hi, rfl, rfl, hkl, hbw⟩ := hrel
    have Hbw := Lib.hid hbw
    have hsw := hbw.size
    have Hbw5 := Lib.hid (Hb9.out.trans (hbw.mono hs9))
    have HSLw := Lib.hid (HSL.out.below Hbw5.out)
    have HDw := Lib.hid (HD5.out.below Hbw5.out)
    have HSOw := Lib.hid (HSO.out.below hbw)
    have pr := cell_of_row wr P 0 _ _ _ ((Hbw5.out.block P hlP).trans HPr.out)
    have hPw : P < wr.heap.size := by omega
    clear hbw
    by_cases hiL : i < L.length
    · have hiL' : (i : Int) < (L.length : Int) := by omega
      have hmem : L[i].1 ∈ lns L := List.mem_map_of_mem (List.getElem_mem hiL)
      have hcm := Hlaw.out.2.2.2.2.2 _ hmem
      have hcs := clipsP_snoc a (lns (L.take i)) L[i].1
      rw [← lns_takeU hiL] at hcs
      have hat : (chooseP andB L[i].1.rg a).length ≠ 0 → (clipsP a (lns L))[(clipsP a (lns (L.take i))).length]? = some ⟨L[i].1.pc, chooseP andB L[i].1.rg a, L[i].1.cr, L[i].1.sch⟩ := fun hne => by
        have h1 : i < (lns L).length := by rw [lns_len]; exact hiL
        have e1 : (lns L)[i] = L[i].1 := by simp [lns]
        have e2 : (lns L).take i = lns (L.take i) := by simp [lns]
        have := clips_at (a := a) h1 (by rw [e1]; exact hne)
        rw [e1, e2] at this
        exact this
      obtain ⟨b2, o2, hLA, hb2, g0, g1, g2, g3, hS⟩ := HSLw.out.at i hiL
      have HS := Lib.hid hS
      have Hcs := Lib.hid hcs
      have Hat := Lib.hid hat
      clear hS hmem hcs hat
      generalize L[i] = y at *
      obtain ⟨⟨ypc, yrg, ycr, ysch⟩, ⟨ya, yc⟩⟩ := y
      dsimp only at *
      subst hLA
      have HBo := Lib.hid (fun W (hW : Below wr.heap.size wr W) => bothR_any ya D yrg.length yc a.length dc yrg a W (HS.out.below hW) (HDw.out.below hW))
      rw [hcm] at HBo
      obtain ⟨cl, hcl⟩ : ∃ cl, chooseP andB yrg a = cl := ⟨_, rfl⟩
      rw [hcl] at HBo Hcs Hat
      clear hcm hcl
      obtain ⟨kk, hkk⟩ : ∃ kk, (clipsP a (lns (L.take i))).length = kk := ⟨_, rfl⟩
      have Hkk := Lib.hid hkk
      rw [hkk] at Hat hkl ⊢
      clear hkk
      have hrow := heap_alloc_new wr (.cells #[.int .i64 ypc, .slice ya yrg.length yc, .int .i64 ycr, .int .i64 ysch] 38)
      have Hbb : Hid (Below wr.heap.size wr (wr.alloc (.cells #[.int .i64 ypc, .slice ya yrg.length yc, .int .i64 ycr, .int .i64 ysch] 38))) := Lib.hid (by repeat' (first | with_reducible exact Below.refl _ _ | with_reducible refine below_drewN ?_ _ | with_reducible refine Below.drew ?_ | with_reducible refine Below.alloc ?_ ?_ _ | with_reducible refine Below.setCell ?_ ?_ _ | with_reducible refine Below.trans ?_ (Below.mono (by with_reducible assumption) ?_) | (simp; done) | (simp; omega) | omega))
      have hlb : wr.heap.size < (wr.alloc (.cells #[.int .i64 ypc, .slice ya yrg.length yc, .int .i64 ycr, .int .i64 ysch] 38)).heap.size := by simp
      go_upto_region 14 with fail
      obtain ⟨T, hT⟩ : ∃ T, wr.heap.size = T := ⟨_, rfl⟩
      rw [hT] at hrow hlb ⊢
      have hTle : wr.heap.size ≤ T := Nat.le_of_eq hT
      generalize wr.alloc (.cells #[.int .i64 ypc, .slice ya yrg.length yc, .int .i64 ycr, .int .i64 ysch] 38) = wb at *
      have a1 := cell_of_row wb T 1 _ _ _ hrow
      have pb := (Hbb.out.cell (p := ⟨P, 0, none⟩) hPw).trans pr
      have Hrow := Lib.hid hrow
      have hsb : wr.heap.size ≤ wb.heap.size := by omega
      clear hrow g0 g1 g2 g3 hT pr
      go_upto_region 15 with (first
        | (go_at_call 23
           refine (HBo.out _ Hbb.out).mono ?_
           rintro e wc ⟨vc, rfl, hownc, hbc⟩
           dsimp only at hownc ⊢
           obtain ⟨F2, fc, rfl, hF⟩ := SlR.of_own hownc
           have HF := Lib.hid hF
           have Hbc := Lib.hid hbc
           have hsc := hbc.size
           clear hownc hbc hF)
        | fail)
      obtain ⟨w6', hw6⟩ : ∃ w6' : World, w6' = wc.alloc (.cells #[.slice F2 cl.length fc] 33) := ⟨_, rfl⟩
      rw [← hw6]
      have HZ : Hid (w6'.heap[wc.heap.size]? = some (.cells #[.slice F2 cl.length fc] 33 (0, 0))) := Lib.hid (by rw [hw6]; exact heap_alloc_new wc _)
      have Hbz : Hid (Below wb.heap.size wb w6') := Lib.hid (by rw [hw6]; exact Hbc.out.alloc hsc _)
      have HFz : Hid (SlR w6' F2 cl.length fc cl) := Lib.hid (by rw [hw6]; exact HF.out.alloc _)
      have hlZ : wc.heap.size < w6'.heap.size := by rw [hw6]; simp
      obtain ⟨Z, hZ⟩ : ∃ Z, wc.heap.size = Z := ⟨_, rfl⟩
      rw [hZ] at HZ hlZ hsc ⊢
      clear hw6 hZ HF Hbc a1 pb
      have hs6' := Hbz.out.size
      have z0 := cell_of_row w6' Z 0 _ _ _ HZ.out
      have hrow6 := (Hbz.out.block T hlb).trans Hrow.out
      have t0 := cell_of_row w6' T 0 _ _ _ hrow6
      have t2 := cell_of_row w6' T 2 _ _ _ hrow6
      have t3 := cell_of_row w6' T 3 _ _ _ hrow6
      have hT6 : T < w6'.heap.size := by omega
      have HbT : Hid (Below wr.heap.size wr w6') := Lib.hid (Hbb.out.trans (Hbz.out.mono hsb))
      clear hrow6
      by_cases hl0 : cl.length = 0
      · have hl0' : (cl.length : Int) = 0 := by omega
        have Hn : Hid (clipsP a (lns (L.take (i + 1))) = clipsP a (lns (L.take i))) := Lib.hid (by rw [Hcs.out, if_pos hl0])
        clear Hcs Hat
        go_wp2
        go_roundw
        case rel => exact ⟨i + 1, by omega, by go_num, by rw [Hn.out, Hkk.out], by rw [Hn.out, Hkk.out]; omega, Hbw.out.trans (HbT.out.mono hsw)⟩
        case measure => simp [intOf]; omega
      · have hl0' : ¬ (cl.length : Int) = 0 := by omega
        have Hn : Hid ((clipsP a (lns (L.take (i + 1)))).length = kk + 1) := Lib.hid (by rw [Hcs.out, if_neg hl0, List.length_append, Hkk.out]; rfl)
        have hat := Hat.out hl0
        rw [← HO.out] at hat
        have hkO : kk < O.length := by
          rcases Nat.lt_or_ge kk O.length with h | h
          · exact h
          · rw [List.getElem?_eq_none (by rw [lns_len]; exact h)] at hat; cases hat
        have hOk : O[kk].1 = ⟨ypc, cl, ycr, ysch⟩ := by
          have e : (lns O)[kk]? = some O[kk].1 := by simp [lns, hkO]
          rw [e] at hat
          injection hat
        obtain ⟨b3, o3, hOA, hb3, k0, k1, k2, k3, hSk⟩ := (HSOw.out.below HbT.out).at kk hkO
        generalize O[kk] = z at *
        obtain ⟨z1, ⟨za, zc⟩⟩ := z
        dsimp only at *
        subst hOk
        dsimp only at *
        have HSk := Lib.hid hSk
        have hkO' : (kk : Int) < (O.length : Int) := by omega
        have hkO2 : ¬ (O.length : Int) ≤ (kk : Int) := by omega
        subst hOA
        have HSm := Lib.hid (fun W (hW : Below w6'.heap.size w6' W) => sameRef_any za F2 cl.length zc cl.length fc cl cl W (HSk.out.below hW) (HFz.out.below hW))
        rw [decide_eq_true rfl] at HSm
        clear hSk hat Hat Hcs
        go_upto_region 16 with fail
        refine wp_region_below (W := w6') w6'.heap.size (Nat.le_refl _) (by kernel_rfl) (by kernel_rfl) ?_
        intro I _ F hFc hFb hFs
        repeat (go_big_quiet_step ((go_at_call 18; with_reducible exact class_call hFb hFs (Nat.le_refl _) (HSm.out _ (hFb _)))))
        refine wpQuiet_nil ?_
        rintro _ ⟨iq, rfl⟩
        go_wp2
        go_roundw
        case rel => exact ⟨i + 1, by omega, by go_num, by rw [Hn.out]; go_num, by rw [Hn.out]; omega, Hbw.out.trans ((HbT.out.trans ((hFb iq).mono (by omega))).mono hsw)⟩
        case measure => simp [intOf]; omega
    · obtain rfl : i = L.length := by omega
      have hiL' : ¬ (L.length : Int) < (L.length : Int) := by omega
      have hfull : L.take L.length = L := List.take_of_length_le (Nat.le_refl _)
      have hlen : (clipsP a (lns L)).length = O.length := by rw [← HO.out, lns_len]
      rw [hfull, hlen]
      clear hfull hlen hkl
      go_wp2_with (first
        | (go_at_call 16
           refine (awake13_any _).mono ?_
           rintro e wz ⟨rfl, hbz⟩)
        | fail)
      go_ret
      exact ⟨rfl, Hb5.out.trans ((Hbw5.out.trans (hbz.mono (by omega))).mono hs5)⟩
end Go.Proofs.YtglanlpjoaholaaGreat

namespace Go.Proofs.YtglanlpjoaholaaGreat.claimClips
open Go.ChangeShapes Go.WideShapes Go.ChangeAt Go.RowKit
set_option linter.unusedVariables false

theorem own : ownKnob Tryz.prog.godebug = none := by kernel_rfl
theorem laidOut : laidOutB Tryz.prog = true := by kernel_rfl

set_option maxRecDepth 100000 in
theorem lifted (os : Os) (started : os.Started) (H : Type) (enc : TypeId × Value → H) :
    ReturnsInHanded {} Tryz.checked os 7 .any (Rows.claimClipsSpec.pre6 enc Tryz.prog Tryz.f7 Rows.claimClipsRow.domain false) (Rows.claimClipsSpec.post enc Tryz.prog Tryz.f7 false true false false) := by
  refine returnsInHanded_of_change (C := Tryz.checked) own started (by kernel_rfl) Tryz.func7
    (ChangeSpec.witness6 (enc := enc) (C := Tryz.checked) false ⟨#[], #[.slice none 0 0], []⟩ 8 (by kernel_rfl) (by kernel_rfl) (by kernel_rfl) (by kernel_rfl)) ?_
  intro W base args ds gs before hval0 hW hcnd _
  have hval : ∀ (j : Nat) t v, Tryz.f7.params[j]? = some t → args[j]? = some v → Value.okWide Tryz.prog W .any base t v := hval0
  have hW' := hW
  obtain ⟨p, q, hA0, hV, rfl, hfz, hnd⟩ := hW
  have hA : DataW.TrodAll enc Tryz.prog W 0 (fun _ => true) true Tryz.f7.params.toList args.toList ds p := hA0
  rw [Tryz.params7] at hA hval
  obtain ⟨v0, vs0, d0, ds0, p0, q0, hargs, rfl, rfl, h0, r0⟩ := trodAll_cons hA
  obtain ⟨rfl, rfl, rfl⟩ := trodAll_nil r0
  obtain rfl : args = #[v0] := by cases args; simp_all
  obtain ⟨rfl, rfl⟩ := trodVars_none hV
  have k0 := h0
  have lt0 : ∀ x ∈ p0, x.block < W.heap.size := by obtain ⟨m, hm⟩ := k0; exact DataW.trod_lt m _ _ _ hm
  obtain ⟨A0, n0, c0, z0, rfl, hz0, hm0, hl0, hw0⟩ := open_lies Tryz.underlying22 Tryz.underlying3 (by kernel_rfl) (hval 0 22 v0 rfl rfl) h0
  clear hA0 hval0
  refine (clipsLaw13 A0 n0 c0 z0 W hz0 hm0.1 hm0.2 hw0 hl0).mono fun e W' ⟨he, bel⟩ => ?_
  subst he
  exact ⟨_, rfl, _, _, _, [], _, [], hW', trodAll_mk1 (shut_bool Tryz.underlying4 _), (trodAll_cons_mk (Below.trod laidOut (by kernel_rfl) (of_decide_eq_true (by kernel_rfl)) k0 bel lt0) trodAll_mk0), rfl, bel.frame _, fun h => by cases h⟩

theorem over : Rows.claimClipsRow.holds Tryz.pinned (OpenSpec.ofChange Rows.claimClipsSpec) :=
  OpenClaim.holds_of_wide 7 Tryz.f7 rfl rfl rfl rfl rfl rfl rfl ⟨rfl, rfl, rfl, rfl, rfl⟩ rfl rfl rfl rfl rfl (by kernel_rfl) Tryz.func7 (by kernel_rfl)
    (of_decide_eq_true (by kernel_rfl)) (by unfold Func.isWrapper; first | (rw [if_pos (by decide +kernel)]; kernel_rfl) | (rw [if_neg (by decide +kernel)]; exact ⟨rfl, rfl⟩))
    (fun os started H enc _ => lifted os started H enc)

/-- The statement. -/
theorem proved : Rows.ClaimClipsSaid := over
#print axioms proved
end Go.Proofs.YtglanlpjoaholaaGreat.claimClips
