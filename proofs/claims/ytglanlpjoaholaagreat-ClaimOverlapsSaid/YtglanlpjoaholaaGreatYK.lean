/- The walk of ClaimOverlaps. -/
import Derived.Test.YtglanlpjoaholaaGreatYI
import Derived.Test.YtglanlpjoaholaaGreatHT
namespace Go.Proofs.YtglanlpjoaholaaGreat
open Go.RowKit Go.Shelf
set_option linter.unusedVariables false
set_option linter.unusedSimpArgs false

theorem meets_self {a : List R4} (hv : validP a = true) {s : Int} (hi : InS s a) (hne : a ≠ []) : meetsP a a = true := by
  obtain ⟨p, hp⟩ := List.exists_mem_of_ne_nil a hne
  have h := hi p hp
  unfold meetsP
  rw [hv, Bool.true_and, Bool.true_and, List.any_eq_true]
  refine ⟨p, hp, List.any_eq_true.2 ⟨p, hp, ?_⟩⟩
  unfold overP
  simp
  omega
theorem SlL.rdsL {w : World} {A : Option Addr} {n c : Nat} {l : LL} (h : SlL w A n c l) : Reads w w.heap.size 4 A n (lnCells l) := h.lies.reads (by rw [lnCells_len, h.len])
set_option maxHeartbeats 8000000 in
set_option maxRecDepth 100000 in
theorem overlapsLaw13 (A : Option Addr) (n c : Nat) (zs : List Int) (wh : Int) (w : World) (hn : zs.length = n) (hc : n ≤ c) (hm : c ≤ maxLen) (hw : ∀ z ∈ zs, (Lit.int .i64 z).wf = true) (hA : Lies w A n (zs.map (.int .i64))) (hwh : 0 ≤ wh ∧ wh ≤ 255) :
    Calls Tryz.prog 6 #[.slice A n c, .int .u8 wh] w fun e w' => e = .returned (.bool true) ∧ Below w.heap.size w w' := by
  obtain ⟨i2, hi2, hi2z, hl1, hl2⟩ := info_parts Tryz.infoLine
  have HN := Lib.hid (new_any A n c zs w hn hc hm hw hA)
  clear hn hc hm hw hA
  go_enter Tryz.func6, Tryz.ntmps6
  go_wp2_with fail
  refine HN.out.mono ?_
  rintro e w1 ⟨g, rfl, hwg, ht1, hb1⟩
  have Ht1 := Lib.hid ht1
  have Hb1 := Lib.hid hb1
  have hg1 := ht1.lt
  have hs1 := hb1.size
  clear ht1 hb1 HN
  go_wp2_with fail
  refine (crops_any g _ w1 Ht1.out).mono ?_
  rintro e w2 ⟨C, CA, cc, r2, rfl, hC, ht2, hg2, hCl, hCb⟩
  have Ht2 := Lib.hid ht2
  have Hg2 := Lib.hid hg2
  have HC := Lib.hid hC
  have Hco := Lib.hid (cpK_ok C hCl.2 hCb)
  have Hcc := Lib.hid (cpK_cells C 0 (by omega))
  have Hcl := Lib.hid (cpK_len C 0)
  obtain ⟨nc, hnc⟩ : ∃ nc, C.length = nc := ⟨_, rfl⟩
  rw [hnc] at hCl HC Hcl ⊢
  clear hC ht2 hg2 Ht1 hnc hCb
  go_wp2_with fail
  refine (lines_any g r2 CA nc cc 4 w2 Ht2.out (by omega) (Nat.le_refl _)).mono ?_
  rintro e w3 ⟨L, LA, lc, R, NA, kc, RA, rc, r3, k, rfl, hL, hnu, hRo, -, hg3, hpc, hm1, hok, hk4⟩
  have HSL := Lib.hid hL.sll
  have HSR := Lib.hid hRo.slg
  have HSN : Hid (SlI w3 NA R.length kc (nums R.length)) := Lib.hid (by
    obtain ⟨A', c', e, h1, h2, h3⟩ := own_slice hnu
    injection e with e1 e2 e3
    subst e1 e3
    exact ⟨nums_len _, h2, h3, h1⟩)
  have HSC : Hid (SlC w3 CA nc cc (cpK 0 C)) := Lib.hid (by
    obtain ⟨A', c', e, h1, h2, h3⟩ := own_slice (ownsRow_only HC.out hg3 hg1)
    injection e with e1 e2 e3
    subst e1 e3
    exact ⟨Hcl.out, h2, h3, by rw [← Hcc.out]; exact h1⟩)
  have Hb3 : Hid (Below w.heap.size w w3) := Lib.hid (below_only Hb1.out (only_trans Hg2.out hg3) hwg hs1)
  have hR3 : R.length ≤ 3 := by have := hpc.m; rwa [rgs_len] at this
  have HPV : Hid (PcV w3 NA R.length kc (nums R.length) RA rc R CA nc cc (cpK 0 C)) := Lib.hid ⟨HSN.out, HSR.out, HSC.out, by omega, nums_sorted _, fun x hx => by
    obtain ⟨i, hi, rfl⟩ := List.getElem_of_mem hx
    have e : (rgs R)[i]'(by rw [rgs_len]; exact hi) = R[i].1 := by simp [rgs]
    have := (hpc.at' i (by rw [rgs_len]; exact hi)).reg (by omega)
    rw [e] at this
    exact this.valid (by omega) (by omega), Hco.out⟩
  have Hpc := Lib.hid hpc
  have Hok := Lib.hid hok
  have hLl : L.length ≤ 4 := by have := hok.len; rw [lns_len] at this; omega
  clear hL hnu hRo hg3 hpc hok Hg2 Ht2 Hb1 HSC HC Hcc Hcl Hco hCl
  have hs3 := Hb3.out.size
  obtain ⟨ln, hln⟩ : ∃ ln, L.length = ln := ⟨_, rfl⟩
  have Hln := Lib.hid hln
  rw [hln] at HSL hLl ⊢
  clear hln
  by_cases hz : ln = 0
  · have hz' : (ln : Int) = 0 := by omega
    go_wp2_with (first
      | (go_at_call 16
         refine (awake13_any _).mono ?_
         rintro e w9 ⟨rfl, hb9⟩)
      | fail)
    go_ret
    exact ⟨rfl, Hb3.out.trans (hb9.mono hs3)⟩
  have hz' : ¬ (ln : Int) = 0 := by omega
  obtain ⟨kk, hkk⟩ : ∃ kk : Nat, wh % (ln : Int) = (kk : Int) := ⟨(wh % (ln : Int)).toNat, by have := Int.emod_nonneg wh hz'; omega⟩
  have hkl : kk < ln := by have := Int.emod_lt_of_pos wh (by omega : (0 : Int) < (ln : Int)); omega
  have hkL : kk < L.length := by have := Hln.out; omega
  have hkl' : (kk : Int) < (ln : Int) := by omega
  obtain ⟨b2, o2, hLA, hb2, g0, g1, g2, g3, hSy⟩ := HSL.out.at kk hkL
  have Hfit : Hid (∀ x ∈ L ++ [L[kk]], SlR w3 x.2.a x.1.rg.length x.2.c x.1.rg) := Lib.hid (fun x hx => by
    rcases List.mem_append.1 hx with h | h
    · exact HSL.out.fits x h
    · rw [List.mem_singleton] at h
      subst h
      exact hSy)
  have hmem : L[kk] ∈ L := List.getElem_mem hkL
  have hok1 := Hok.out.ok L[kk].1 (List.mem_map_of_mem hmem)
  have hself := meets_self (hok1.reg.valid (by omega) (by omega)) hok1.reg.ins hok1.ne
  have HAll : Hid (∀ (LA' : Option Addr) (lc' : Nat) (W : World), Below w3.heap.size w3 W → SlL W LA' (ln + 1) lc' (L ++ [L[kk]]) → Calls Tryz.prog 19 #[.slice LA' (ln + 1) lc', .slice NA R.length kc, .slice RA R.length rc, .slice CA nc cc, .int .i64 31] W fun e w' => e = .returned (.tuple #[.int .i64 (ln : Int), .int .i64 11]) ∧ Below W.heap.size W w') := Lib.hid (fun LA' lc' W hW hS =>
    allC_any LA' (ln + 1) lc' (L ++ [L[kk]]) NA R.length kc (nums R.length) RA rc R CA nc cc (cpK 0 C) 31 W hS (HPV.out.below hW) (fun x hx => by
      rcases List.mem_append.1 hx with h | h
      · exact (Hok.out.ok x.1 (List.mem_map_of_mem h)).fine Hpc.out
      · rw [List.mem_singleton] at h
        subst h
        exact hok1.fine Hpc.out) (by omega) ln (by omega) (fun i h hi => by
      have hiL : i < L.length := by have := Hln.out; omega
      have := Hok.out.apart i hiL
      rw [List.take_append_of_le_length (by omega), List.getElem_append_left hiL]
      exact this) (.inr ⟨by rw [List.length_append, Hln.out]; simp, by
      have e1 : (L ++ [L[kk]])[ln]'(by rw [List.length_append, Hln.out]; simp) = L[kk] := by
        rw [List.getElem_append_right (by have := Hln.out; omega)]
        simp
      have e2 : (L ++ [L[kk]]).take ln = L := by rw [← Hln.out]; exact List.take_left
      rw [e1, e2, List.any_eq_true]
      exact ⟨L[kk], hmem, hself⟩⟩) _ _ ⟨by rw [if_neg (by omega)], by rw [if_neg (by omega)]⟩)
  clear hSy hmem hok1 hself HPV Hpc Hok
  obtain ⟨y, hy⟩ : ∃ y, L[kk] = y := ⟨_, rfl⟩
  rw [hy] at g0 g1 g2 g3 Hfit HAll
  clear hy
  go_upto_region 7 with fail
  rw [hkk]
  clear hkk
  obtain ⟨wd, hwd⟩ : ∃ wd : World, wd = w3.drew := ⟨_, rfl⟩
  have HSLd : Hid (SlL wd LA ln lc L) := Lib.hid (by rw [hwd]; exact HSL.out.below (Below.drew (Below.refl _ _)))
  have Hbd : Hid (Below w3.heap.size w3 wd) := Lib.hid (by rw [hwd]; exact Below.drew (Below.refl _ _))
  have hsd : w3.heap.size ≤ wd.heap.size := Hbd.out.size
  have Hfit : Hid (∀ x ∈ L ++ [y], SlR wd x.2.a x.1.rg.length x.2.c x.1.rg) := Lib.hid (fun x hx => (Hfit.out x hx).below Hbd.out)
  have HAll : Hid (∀ (LA' : Option Addr) (lc' : Nat) (W : World), Below wd.heap.size wd W → SlL W LA' (ln + 1) lc' (L ++ [y]) → Calls Tryz.prog 19 #[.slice LA' (ln + 1) lc', .slice NA R.length kc, .slice RA R.length rc, .slice CA nc cc, .int .i64 31] W fun e w' => e = .returned (.tuple #[.int .i64 (ln : Int), .int .i64 11]) ∧ Below W.heap.size W w') := Lib.hid (fun LA' lc' W hW hS => HAll.out LA' lc' W (Hbd.out.trans (hW.mono hsd)) hS)
  have hbd2 : b2 < wd.heap.size := by omega
  have HcS : Hid (∀ W, Below wd.heap.size wd W → (fun w' => w'.cell? ⟨b2, o2 + kk * 4, none⟩ = some (.int .i64 y.1.pc) ∧ w'.cell? ⟨b2, o2 + kk * 4 + 1, none⟩ = some (.slice y.2.a y.1.rg.length y.2.c) ∧ w'.cell? ⟨b2, o2 + kk * 4 + 2, none⟩ = some (.int .i64 y.1.cr) ∧ w'.cell? ⟨b2, o2 + kk * 4 + 3, none⟩ = some (.int .i64 y.1.sch)) W) := Lib.hid (fun W hW => ⟨(hW.cell (p := ⟨b2, o2 + kk * 4, none⟩) hbd2).trans (by rw [hwd]; exact g0), (hW.cell (p := ⟨b2, o2 + kk * 4 + 1, none⟩) hbd2).trans (by rw [hwd]; exact g1), (hW.cell (p := ⟨b2, o2 + kk * 4 + 2, none⟩) hbd2).trans (by rw [hwd]; exact g2), (hW.cell (p := ⟨b2, o2 + kk * 4 + 3, none⟩) hbd2).trans (by rw [hwd]; exact g3)⟩)
  refine wp_region_held (S := fun w' => w'.cell? ⟨b2, o2 + kk * 4, none⟩ = some (.int .i64 y.1.pc) ∧ w'.cell? ⟨b2, o2 + kk * 4 + 1, none⟩ = some (.slice y.2.a y.1.rg.length y.2.c) ∧ w'.cell? ⟨b2, o2 + kk * 4 + 2, none⟩ = some (.int .i64 y.1.cr) ∧ w'.cell? ⟨b2, o2 + kk * 4 + 3, none⟩ = some (.int .i64 y.1.sch)) (by kernel_rfl) ?_
  change wpAnyH _ _ _ _ _ 18 #[false, false, false, false, false, false, false, false, false, false, false, false, false, false, false, false, false, false] _ w3.drew
  rw [← hwd]
  clear hwd g0 g1 g2 g3 HSL
  have hHeld := HcS.out wd (Below.refl _ _)
  subst hLA
  refine wpAnyH_take (i := 1) (v := ?vvz1) rfl (by kernel_rfl) (by kernel_rfl) (by kernel_rfl) (fun _ _ _ h => h) (Or.inl ⟨by rfl, ?hyz1⟩) hHeld ?restz1; (case hyz1 => (intro w hSw; (try dsimp only at hSw); go_simp; all_goals (with_reducible rfl))); simp only [Act.put, List.setIfInBounds_toArray, List.set_cons_zero, List.set_cons_succ]
  refine wpAnyH_take (i := 3) (v := ?vvz3) rfl (by kernel_rfl) (by kernel_rfl) (by kernel_rfl) (fun _ _ _ h => h) (Or.inl ⟨by rfl, ?hyz3⟩) hHeld ?restz3; (case hyz3 => (intro w hSw; (try dsimp only at hSw); go_simp; all_goals (with_reducible rfl))); simp only [Act.put, List.setIfInBounds_toArray, List.set_cons_zero, List.set_cons_succ]
  refine wpAnyH_take (i := 4) (v := ?vvz4) rfl (by kernel_rfl) (by kernel_rfl) (by kernel_rfl) (fun _ _ _ h => h) (Or.inl ⟨by rfl, ?hyz4⟩) hHeld ?restz4; (case hyz4 => (intro w hSw; (try dsimp only at hSw); go_simp; all_goals (with_reducible rfl))); simp only [Act.put, List.setIfInBounds_toArray, List.set_cons_zero, List.set_cons_succ]
  refine wpAnyH_take (i := 5) (v := ?vvz5) rfl (by kernel_rfl) (by kernel_rfl) (by kernel_rfl) (fun _ _ _ h => h) (Or.inl ⟨by rfl, ?hyz5⟩) hHeld ?restz5; (case hyz5 => (intro w hSw; (try dsimp only at hSw); go_simp; all_goals (with_reducible rfl))); simp only [Act.put, List.setIfInBounds_toArray, List.set_cons_zero, List.set_cons_succ]
  refine wpAnyH_take (i := 6) (v := ?vvz6) rfl (by kernel_rfl) (by kernel_rfl) (by kernel_rfl) (fun _ _ _ h => h) (Or.inl ⟨by rfl, ?hyz6⟩) hHeld ?restz6; (case hyz6 => (intro w hSw; (try dsimp only at hSw); go_simp; all_goals (with_reducible rfl))); simp only [Act.put, List.setIfInBounds_toArray, List.set_cons_zero, List.set_cons_succ]
  refine wpAnyH_take (i := 9) (v := ?vvz9) rfl (by kernel_rfl) (by kernel_rfl) (by kernel_rfl) (fun _ _ _ h => h) (Or.inl ⟨by rfl, ?hyz9⟩) hHeld ?restz9; (case hyz9 => (intro w hSw; (try dsimp only at hSw); go_simp; all_goals (with_reducible rfl))); simp only [Act.put, List.setIfInBounds_toArray, List.set_cons_zero, List.set_cons_succ]
  refine wpAnyH_take (i := 10) (v := ?vvz10) rfl (by kernel_rfl) (by kernel_rfl) (by kernel_rfl) (fun _ _ _ h => h) (Or.inl ⟨by rfl, ?hyz10⟩) hHeld ?restz10; (case hyz10 => (intro w hSw; (try dsimp only at hSw); go_simp; all_goals (with_reducible rfl))); simp only [Act.put, List.setIfInBounds_toArray, List.set_cons_zero, List.set_cons_succ]
  refine wpAnyH_take (i := 11) (v := ?vvz11) rfl (by kernel_rfl) (by kernel_rfl) (by kernel_rfl) (fun _ _ _ h => h) (Or.inl ⟨by rfl, ?hyz11⟩) hHeld ?restz11; (case hyz11 => (intro w hSw; (try dsimp only at hSw); go_simp; all_goals (with_reducible rfl))); simp only [Act.put, List.setIfInBounds_toArray, List.set_cons_zero, List.set_cons_succ]
  refine wpAnyH_ready (rs := [0, 7]) (by kernel_rfl) (by simp) ?_
  refine AllReadyH.cons rfl (fun K hK => ?_) (AllReadyH.cons rfl (fun K hK => ?_) AllReadyH.nil)
  · go_simp
    refine hK.out _ _ (HcS.out _ ((Below.refl wd.heap.size wd).alloc (Nat.le_refl _) _)) (fun hHeld => ?_)
    clear hK K
    (try simp only [Act.put, List.setIfInBounds_toArray, List.set_cons_zero, List.set_cons_succ])
    refine wpAnyH_ready (rs := [2, 7]) (by kernel_rfl) (by simp) ?_
    refine AllReadyH.cons rfl (fun K hK => ?_) (AllReadyH.cons rfl (fun K hK => ?_) AllReadyH.nil)
    · refine step_append_any _ rfl (.tmp 34) (.tmp 35) 25 rfl wd.heap.size 38 i2 (.agg #[.int .i64 0, .slice none 0 0, .int .i64 0, .int .i64 0]) 4 48 Tryz.underlying25 hi2 hi2z hl1 hl2 rfl (by omega) (.slice (some ⟨wd.heap.size, 0, none⟩) 0 0) 0 [] rfl ((own_rebase (own_lit wd 38 4 0 #[] [] rfl (by simp) (Nat.zero_le _)) (Nat.le_refl _))) _ (some ⟨b2, o2, none⟩) ln lc (lnCells L) rfl (HSLd.out.below ((Below.refl wd.heap.size wd).alloc (Nat.le_refl _) _)).rdsL (lnCells_one L) (by simp only [maxLen]; omega) (by omega) (by (try simp) <;> omega) ?_
      intro v5 w5 hown5 hg5 hat5
      rw [Nat.zero_add, List.nil_append] at hown5
      obtain ⟨A5, c5, rfl, _, _, _⟩ := own_slice hown5
      have Hown5 := Lib.hid hown5
      have Hb5 : Hid (Below wd.heap.size wd w5) := Lib.hid (Below.grown ((Below.refl wd.heap.size wd).alloc (Nat.le_refl _) _) hg5 (by simp) (fun b hb => by simp [Value.ownBlock] at hb; omega))
      have hs5 := Hb5.out.size
      clear hown5
      refine hK.out _ _ (HcS.out _ (Hb5.out)) (fun hHeld => ?_)
      clear hK K
      (try simp only [Act.put, List.setIfInBounds_toArray, List.set_cons_zero, List.set_cons_succ])
      refine wpAnyH_ready (rs := [7]) (by kernel_rfl) (by simp) ?_
      refine AllReadyH.cons rfl (fun K hK => ?_) AllReadyH.nil
      go_simp
      refine hK.out _ _ (HcS.out _ (Hb5.out.alloc hs5 _)) (fun hHeld => ?_)
      clear hK K
      (try simp only [Act.put, List.setIfInBounds_toArray, List.set_cons_zero, List.set_cons_succ])
      refine wpAnyH_ready (rs := [8]) (by kernel_rfl) (by simp) ?_
      refine AllReadyH.cons rfl (fun K hK => ?_) AllReadyH.nil
      refine step_append_any _ rfl (.tmp 36) (.tmp 41) 25 rfl wd.heap.size 38 i2 (.agg #[.int .i64 0, .slice none 0 0, .int .i64 0, .int .i64 0]) 4 48 Tryz.underlying25 hi2 hi2z hl1 hl2 rfl (by omega) _ ln (lnCells L) rfl (Hown5.out.alloc _) _ _ 1 1 [.int .i64 y.1.pc, .slice y.2.a y.1.rg.length y.2.c, .int .i64 y.1.cr, .int .i64 y.1.sch] rfl ⟨rfl, fun _ => ⟨_, rfl, Nat.lt_succ_self _, fun j u hu => (by exact news_any _ _ _ j u hu)⟩⟩ (by simp [Value.oneCell']) (by simp only [maxLen]; omega) (by omega) (by (try simp) <;> omega) ?_
      intro v6 w6 hown6 hg6 hat6
      have Hb6 : Hid (Below wd.heap.size wd w6) := Lib.hid (Below.grown (Hb5.out.alloc hs5 _) hg6 (by simp; omega) (own_base Hown5.out))
      obtain ⟨A6, c6, rfl, q1, q2, q3⟩ := own_slice hown6
      have HS6 : Hid (SlL w6 A6 (ln + 1) c6 (L ++ [y])) := Lib.hid ⟨by rw [List.length_append, Hln.out]; rfl, q2, q3, by rw [lnCells_snoc]; exact q1, fun x hx => (Hfit.out x hx).below Hb6.out⟩
      clear hown6 hg6 hat6 q1 q2 q3 hat5
      refine hK.out _ _ (HcS.out _ (Hb6.out)) (fun hHeld => ?_)
      clear hK K
      (try simp only [Act.put, List.setIfInBounds_toArray, List.set_cons_zero, List.set_cons_succ])
      refine wpAnyH_ready (rs := [12]) (by kernel_rfl) (by simp) ?_
      refine AllReadyH.cons rfl (fun K hK => ?_) AllReadyH.nil
      go_simp
      go_at_call 19
      refine (HAll.out A6 c6 w6 Hb6.out HS6.out).mono ?_
      rintro e w7 ⟨rfl, hb7⟩
      have Hb7 := Lib.hid (Hb6.out.trans (hb7.mono Hb6.out.size))
      clear hb7
      refine hK.out _ _ (HcS.out _ (Hb7.out)) (fun hHeld => ?_)
      clear hK K
      (try simp only [Act.put, List.setIfInBounds_toArray, List.set_cons_zero, List.set_cons_succ])
      refine wpAnyH_take (i := 13) (v := ?vva13) rfl (by kernel_rfl) (by kernel_rfl) (by kernel_rfl) (fun _ _ _ h => h) (Or.inl ⟨by rfl, ?hya13⟩) hHeld ?resta13; (case hya13 => (intro w hSw; (try dsimp only at hSw); go_simp; all_goals (with_reducible rfl))); simp only [Act.put, List.setIfInBounds_toArray, List.set_cons_zero, List.set_cons_succ]
      refine wpAnyH_take (i := 14) (v := ?vva14) rfl (by kernel_rfl) (by kernel_rfl) (by kernel_rfl) (fun _ _ _ h => h) (Or.inl ⟨by rfl, ?hya14⟩) hHeld ?resta14; (case hya14 => (intro w hSw; (try dsimp only at hSw); go_simp; all_goals (with_reducible rfl))); simp only [Act.put, List.setIfInBounds_toArray, List.set_cons_zero, List.set_cons_succ]
      refine wpAnyH_take (i := 15) (v := ?vva15) rfl (by kernel_rfl) (by kernel_rfl) (by kernel_rfl) (fun _ _ _ h => h) (Or.inl ⟨by rfl, ?hya15⟩) hHeld ?resta15; (case hya15 => (intro w hSw; (try dsimp only at hSw); go_simp; all_goals (with_reducible rfl))); simp only [Act.put, List.setIfInBounds_toArray, List.set_cons_zero, List.set_cons_succ]
      refine wpAnyH_take (i := 16) (v := ?vva16) rfl (by kernel_rfl) (by kernel_rfl) (by kernel_rfl) (fun _ _ _ h => h) (Or.inl ⟨by rfl, ?hya16⟩) hHeld ?resta16; (case hya16 => (intro w hSw; (try dsimp only at hSw); go_simp; all_goals (with_reducible rfl))); simp only [Act.put, List.setIfInBounds_toArray, List.set_cons_zero, List.set_cons_succ]
      refine wpAnyH_take (i := 17) (v := ?vva17) rfl (by kernel_rfl) (by kernel_rfl) (by kernel_rfl) (fun _ _ _ h => h) (Or.inl ⟨by rfl, ?hya17⟩) hHeld ?resta17; (case hya17 => (intro w hSw; (try dsimp only at hSw); go_simp; all_goals (with_reducible rfl))); simp only [Act.put, List.setIfInBounds_toArray, List.set_cons_zero, List.set_cons_succ]
      refine wpAnyH_done (by kernel_rfl) ?_ _
      clear hHeld
      have hs7 := Hb7.out.size
      go_wp2_with (first
        | (go_at_call 16
           refine (awake13_any _).mono ?_
           rintro e w9 ⟨rfl, hb9⟩)
        | fail)
      go_ret
      exact ⟨rfl, Hb3.out.trans ((Hbd.out.trans ((Hb7.out.trans (hb9.mono hs7)).mono hsd)).mono hs3)⟩
    · go_simp
      refine hK.out _ _ (HcS.out _ (((Below.refl wd.heap.size wd).alloc (Nat.le_refl _) (.cells #[] 38)).alloc (by simp) (.cells #[.int .i64 y.1.pc, .slice y.2.a y.1.rg.length y.2.c, .int .i64 y.1.cr, .int .i64 y.1.sch] 38))) (fun hHeld => ?_)
      clear hK K
      (try simp only [Act.put, List.setIfInBounds_toArray, List.set_cons_zero, List.set_cons_succ])
      refine wpAnyH_ready (rs := [2]) (by kernel_rfl) (by simp) ?_
      refine AllReadyH.cons rfl (fun K hK => ?_) AllReadyH.nil
      refine step_append_any _ rfl (.tmp 34) (.tmp 35) 25 rfl wd.heap.size 38 i2 (.agg #[.int .i64 0, .slice none 0 0, .int .i64 0, .int .i64 0]) 4 48 Tryz.underlying25 hi2 hi2z hl1 hl2 rfl (by omega) (.slice (some ⟨wd.heap.size, 0, none⟩) 0 0) 0 [] rfl ((own_rebase ((own_lit wd 38 4 0 #[] [] rfl (by simp) (Nat.zero_le _)).alloc (.cells #[.int .i64 y.1.pc, .slice y.2.a y.1.rg.length y.2.c, .int .i64 y.1.cr, .int .i64 y.1.sch] 38)) (Nat.le_refl _))) _ (some ⟨b2, o2, none⟩) ln lc (lnCells L) rfl (HSLd.out.below (((Below.refl wd.heap.size wd).alloc (Nat.le_refl _) (.cells #[] 38)).alloc (by simp) (.cells #[.int .i64 y.1.pc, .slice y.2.a y.1.rg.length y.2.c, .int .i64 y.1.cr, .int .i64 y.1.sch] 38))).rdsL (lnCells_one L) (by simp only [maxLen]; omega) (by omega) (by (try simp) <;> omega) ?_
      intro v5 w5 hown5 hg5 hat5
      rw [Nat.zero_add, List.nil_append] at hown5
      obtain ⟨A5, c5, rfl, _, _, _⟩ := own_slice hown5
      have Hown5 := Lib.hid hown5
      have hnw0 := heap_alloc_new (wd.alloc (.cells #[] 38)) (.cells #[.int .i64 y.1.pc, .slice y.2.a y.1.rg.length y.2.c, .int .i64 y.1.cr, .int .i64 y.1.sch] 38)
      rw [World.size_alloc] at hnw0
      have hnw := (hg5.block (wd.heap.size + 1) (by simp) (by simp [Value.ownBlock])).trans hnw0
      have Hb5 : Hid (Below wd.heap.size wd w5) := Lib.hid (Below.grown (((Below.refl wd.heap.size wd).alloc (Nat.le_refl _) (.cells #[] 38)).alloc (by simp) (.cells #[.int .i64 y.1.pc, .slice y.2.a y.1.rg.length y.2.c, .int .i64 y.1.cr, .int .i64 y.1.sch] 38)) hg5 (by simp; omega) (fun b hb => by simp [Value.ownBlock] at hb; omega))
      have hs5 := Hb5.out.size
      have hBl : wd.heap.size + 1 < w5.heap.size := by have := hg5.size; simp at this; omega
      clear hown5 hnw0
      refine hK.out _ _ (HcS.out _ (Hb5.out)) (fun hHeld => ?_)
      clear hK K
      (try simp only [Act.put, List.setIfInBounds_toArray, List.set_cons_zero, List.set_cons_succ])
      refine wpAnyH_ready (rs := [8]) (by kernel_rfl) (by simp) ?_
      refine AllReadyH.cons rfl (fun K hK => ?_) AllReadyH.nil
      refine step_append_any _ rfl (.tmp 36) (.tmp 41) 25 rfl wd.heap.size 38 i2 (.agg #[.int .i64 0, .slice none 0 0, .int .i64 0, .int .i64 0]) 4 48 Tryz.underlying25 hi2 hi2z hl1 hl2 rfl (by omega) _ ln (lnCells L) rfl (Hown5.out) _ _ 1 1 [.int .i64 y.1.pc, .slice y.2.a y.1.rg.length y.2.c, .int .i64 y.1.cr, .int .i64 y.1.sch] rfl ⟨rfl, fun _ => ⟨_, rfl, hBl, fun j u hu => World.news_of_block hnw j u hu⟩⟩ (by simp [Value.oneCell']) (by simp only [maxLen]; omega) (by omega) (by (try simp) <;> omega) ?_
      intro v6 w6 hown6 hg6 hat6
      have Hb6 : Hid (Below wd.heap.size wd w6) := Lib.hid (Below.grown (Hb5.out) hg6 (by omega) (own_base Hown5.out))
      obtain ⟨A6, c6, rfl, q1, q2, q3⟩ := own_slice hown6
      have HS6 : Hid (SlL w6 A6 (ln + 1) c6 (L ++ [y])) := Lib.hid ⟨by rw [List.length_append, Hln.out]; rfl, q2, q3, by rw [lnCells_snoc]; exact q1, fun x hx => (Hfit.out x hx).below Hb6.out⟩
      clear hown6 hg6 hat6 q1 q2 q3 hat5
      refine hK.out _ _ (HcS.out _ (Hb6.out)) (fun hHeld => ?_)
      clear hK K
      (try simp only [Act.put, List.setIfInBounds_toArray, List.set_cons_zero, List.set_cons_succ])
      refine wpAnyH_ready (rs := [12]) (by kernel_rfl) (by simp) ?_
      refine AllReadyH.cons rfl (fun K hK => ?_) AllReadyH.nil
      go_simp
      go_at_call 19
      refine (HAll.out A6 c6 w6 Hb6.out HS6.out).mono ?_
      rintro e w7 ⟨rfl, hb7⟩
      have Hb7 := Lib.hid (Hb6.out.trans (hb7.mono Hb6.out.size))
      clear hb7
      refine hK.out _ _ (HcS.out _ (Hb7.out)) (fun hHeld => ?_)
      clear hK K
      (try simp only [Act.put, List.setIfInBounds_toArray, List.set_cons_zero, List.set_cons_succ])
      refine wpAnyH_take (i := 13) (v := ?vvb13) rfl (by kernel_rfl) (by kernel_rfl) (by kernel_rfl) (fun _ _ _ h => h) (Or.inl ⟨by rfl, ?hyb13⟩) hHeld ?restb13; (case hyb13 => (intro w hSw; (try dsimp only at hSw); go_simp; all_goals (with_reducible rfl))); simp only [Act.put, List.setIfInBounds_toArray, List.set_cons_zero, List.set_cons_succ]
      refine wpAnyH_take (i := 14) (v := ?vvb14) rfl (by kernel_rfl) (by kernel_rfl) (by kernel_rfl) (fun _ _ _ h => h) (Or.inl ⟨by rfl, ?hyb14⟩) hHeld ?restb14; (case hyb14 => (intro w hSw; (try dsimp only at hSw); go_simp; all_goals (with_reducible rfl))); simp only [Act.put, List.setIfInBounds_toArray, List.set_cons_zero, List.set_cons_succ]
      refine wpAnyH_take (i := 15) (v := ?vvb15) rfl (by kernel_rfl) (by kernel_rfl) (by kernel_rfl) (fun _ _ _ h => h) (Or.inl ⟨by rfl, ?hyb15⟩) hHeld ?restb15; (case hyb15 => (intro w hSw; (try dsimp only at hSw); go_simp; all_goals (with_reducible rfl))); simp only [Act.put, List.setIfInBounds_toArray, List.set_cons_zero, List.set_cons_succ]
      refine wpAnyH_take (i := 16) (v := ?vvb16) rfl (by kernel_rfl) (by kernel_rfl) (by kernel_rfl) (fun _ _ _ h => h) (Or.inl ⟨by rfl, ?hyb16⟩) hHeld ?restb16; (case hyb16 => (intro w hSw; (try dsimp only at hSw); go_simp; all_goals (with_reducible rfl))); simp only [Act.put, List.setIfInBounds_toArray, List.set_cons_zero, List.set_cons_succ]
      refine wpAnyH_take (i := 17) (v := ?vvb17) rfl (by kernel_rfl) (by kernel_rfl) (by kernel_rfl) (fun _ _ _ h => h) (Or.inl ⟨by rfl, ?hyb17⟩) hHeld ?restb17; (case hyb17 => (intro w hSw; (try dsimp only at hSw); go_simp; all_goals (with_reducible rfl))); simp only [Act.put, List.setIfInBounds_toArray, List.set_cons_zero, List.set_cons_succ]
      refine wpAnyH_done (by kernel_rfl) ?_ _
      clear hHeld
      have hs7 := Hb7.out.size
      go_wp2_with (first
        | (go_at_call 16
           refine (awake13_any _).mono ?_
           rintro e w9 ⟨rfl, hb9⟩)
        | fail)
      go_ret
      exact ⟨rfl, Hb3.out.trans ((Hbd.out.trans ((Hb7.out.trans (hb9.mono hs7)).mono hsd)).mono hs3)⟩
  · go_simp
    refine hK.out _ _ (HcS.out _ ((Below.refl wd.heap.size wd).alloc (Nat.le_refl _) _)) (fun hHeld => ?_)
    clear hK K
    (try simp only [Act.put, List.setIfInBounds_toArray, List.set_cons_zero, List.set_cons_succ])
    refine wpAnyH_ready (rs := [0]) (by kernel_rfl) (by simp) ?_
    refine AllReadyH.cons rfl (fun K hK => ?_) AllReadyH.nil
    go_simp
    refine hK.out _ _ (HcS.out _ (((Below.refl wd.heap.size wd).alloc (Nat.le_refl _) (.cells #[.int .i64 y.1.pc, .slice y.2.a y.1.rg.length y.2.c, .int .i64 y.1.cr, .int .i64 y.1.sch] 38)).alloc (by simp) (.cells #[] 38))) (fun hHeld => ?_)
    clear hK K
    (try simp only [Act.put, List.setIfInBounds_toArray, List.set_cons_zero, List.set_cons_succ])
    refine wpAnyH_ready (rs := [2]) (by kernel_rfl) (by simp) ?_
    refine AllReadyH.cons rfl (fun K hK => ?_) AllReadyH.nil
    have hz0 : ((wd.alloc (.cells #[.int .i64 y.1.pc, .slice y.2.a y.1.rg.length y.2.c, .int .i64 y.1.cr, .int .i64 y.1.sch] 38)).alloc (.cells #[] 38)).ownsRow wd.heap.size 38 4 (.slice (some ⟨wd.heap.size + 1, 0, none⟩) 0 0) 0 [] := by
      have h := own_lit (wd.alloc (.cells #[.int .i64 y.1.pc, .slice y.2.a y.1.rg.length y.2.c, .int .i64 y.1.cr, .int .i64 y.1.sch] 38)) 38 4 0 #[] [] rfl (by simp) (Nat.zero_le _)
      rw [World.size_alloc] at h
      exact own_rebase h (Nat.le_succ _)
    refine step_append_any _ rfl (.tmp 34) (.tmp 35) 25 rfl wd.heap.size 38 i2 (.agg #[.int .i64 0, .slice none 0 0, .int .i64 0, .int .i64 0]) 4 48 Tryz.underlying25 hi2 hi2z hl1 hl2 rfl (by omega) (.slice (some ⟨wd.heap.size + 1, 0, none⟩) 0 0) 0 [] rfl (hz0) _ (some ⟨b2, o2, none⟩) ln lc (lnCells L) rfl (HSLd.out.below (((Below.refl wd.heap.size wd).alloc (Nat.le_refl _) (.cells #[.int .i64 y.1.pc, .slice y.2.a y.1.rg.length y.2.c, .int .i64 y.1.cr, .int .i64 y.1.sch] 38)).alloc (by simp) (.cells #[] 38))).rdsL (lnCells_one L) (by simp only [maxLen]; omega) (by omega) (by (try simp) <;> omega) ?_
    intro v5 w5 hown5 hg5 hat5
    rw [Nat.zero_add, List.nil_append] at hown5
    obtain ⟨A5, c5, rfl, _, _, _⟩ := own_slice hown5
    have Hown5 := Lib.hid hown5
    have hnw := (hg5.block wd.heap.size (by simp; omega) (by simp [Value.ownBlock])).trans ((Below.heap_alloc _ _ _ (by simp)).trans (heap_alloc_new wd (.cells #[.int .i64 y.1.pc, .slice y.2.a y.1.rg.length y.2.c, .int .i64 y.1.cr, .int .i64 y.1.sch] 38)))
    have Hb5 : Hid (Below wd.heap.size wd w5) := Lib.hid (Below.grown (((Below.refl wd.heap.size wd).alloc (Nat.le_refl _) (.cells #[.int .i64 y.1.pc, .slice y.2.a y.1.rg.length y.2.c, .int .i64 y.1.cr, .int .i64 y.1.sch] 38)).alloc (by simp) (.cells #[] 38)) hg5 (by simp; omega) (fun b hb => by simp [Value.ownBlock] at hb; omega))
    have hs5 := Hb5.out.size
    have hBl : wd.heap.size < w5.heap.size := by have := hg5.size; simp at this; omega
    clear hown5 hz0
    refine hK.out _ _ (HcS.out _ (Hb5.out)) (fun hHeld => ?_)
    clear hK K
    (try simp only [Act.put, List.setIfInBounds_toArray, List.set_cons_zero, List.set_cons_succ])
    refine wpAnyH_ready (rs := [8]) (by kernel_rfl) (by simp) ?_
    refine AllReadyH.cons rfl (fun K hK => ?_) AllReadyH.nil
    refine step_append_any _ rfl (.tmp 36) (.tmp 41) 25 rfl wd.heap.size 38 i2 (.agg #[.int .i64 0, .slice none 0 0, .int .i64 0, .int .i64 0]) 4 48 Tryz.underlying25 hi2 hi2z hl1 hl2 rfl (by omega) _ ln (lnCells L) rfl (Hown5.out) _ _ 1 1 [.int .i64 y.1.pc, .slice y.2.a y.1.rg.length y.2.c, .int .i64 y.1.cr, .int .i64 y.1.sch] rfl ⟨rfl, fun _ => ⟨_, rfl, hBl, fun j u hu => World.news_of_block hnw j u hu⟩⟩ (by simp [Value.oneCell']) (by simp only [maxLen]; omega) (by omega) (by (try simp) <;> omega) ?_
    intro v6 w6 hown6 hg6 hat6
    have Hb6 : Hid (Below wd.heap.size wd w6) := Lib.hid (Below.grown (Hb5.out) hg6 (by omega) (own_base Hown5.out))
    obtain ⟨A6, c6, rfl, q1, q2, q3⟩ := own_slice hown6
    have HS6 : Hid (SlL w6 A6 (ln + 1) c6 (L ++ [y])) := Lib.hid ⟨by rw [List.length_append, Hln.out]; rfl, q2, q3, by rw [lnCells_snoc]; exact q1, fun x hx => (Hfit.out x hx).below Hb6.out⟩
    clear hown6 hg6 hat6 q1 q2 q3 hat5
    refine hK.out _ _ (HcS.out _ (Hb6.out)) (fun hHeld => ?_)
    clear hK K
    (try simp only [Act.put, List.setIfInBounds_toArray, List.set_cons_zero, List.set_cons_succ])
    refine wpAnyH_ready (rs := [12]) (by kernel_rfl) (by simp) ?_
    refine AllReadyH.cons rfl (fun K hK => ?_) AllReadyH.nil
    go_simp
    go_at_call 19
    refine (HAll.out A6 c6 w6 Hb6.out HS6.out).mono ?_
    rintro e w7 ⟨rfl, hb7⟩
    have Hb7 := Lib.hid (Hb6.out.trans (hb7.mono Hb6.out.size))
    clear hb7
    refine hK.out _ _ (HcS.out _ (Hb7.out)) (fun hHeld => ?_)
    clear hK K
    (try simp only [Act.put, List.setIfInBounds_toArray, List.set_cons_zero, List.set_cons_succ])
    refine wpAnyH_take (i := 13) (v := ?vvc13) rfl (by kernel_rfl) (by kernel_rfl) (by kernel_rfl) (fun _ _ _ h => h) (Or.inl ⟨by rfl, ?hyc13⟩) hHeld ?restc13; (case hyc13 => (intro w hSw; (try dsimp only at hSw); go_simp; all_goals (with_reducible rfl))); simp only [Act.put, List.setIfInBounds_toArray, List.set_cons_zero, List.set_cons_succ]
    refine wpAnyH_take (i := 14) (v := ?vvc14) rfl (by kernel_rfl) (by kernel_rfl) (by kernel_rfl) (fun _ _ _ h => h) (Or.inl ⟨by rfl, ?hyc14⟩) hHeld ?restc14; (case hyc14 => (intro w hSw; (try dsimp only at hSw); go_simp; all_goals (with_reducible rfl))); simp only [Act.put, List.setIfInBounds_toArray, List.set_cons_zero, List.set_cons_succ]
    refine wpAnyH_take (i := 15) (v := ?vvc15) rfl (by kernel_rfl) (by kernel_rfl) (by kernel_rfl) (fun _ _ _ h => h) (Or.inl ⟨by rfl, ?hyc15⟩) hHeld ?restc15; (case hyc15 => (intro w hSw; (try dsimp only at hSw); go_simp; all_goals (with_reducible rfl))); simp only [Act.put, List.setIfInBounds_toArray, List.set_cons_zero, List.set_cons_succ]
    refine wpAnyH_take (i := 16) (v := ?vvc16) rfl (by kernel_rfl) (by kernel_rfl) (by kernel_rfl) (fun _ _ _ h => h) (Or.inl ⟨by rfl, ?hyc16⟩) hHeld ?restc16; (case hyc16 => (intro w hSw; (try dsimp only at hSw); go_simp; all_goals (with_reducible rfl))); simp only [Act.put, List.setIfInBounds_toArray, List.set_cons_zero, List.set_cons_succ]
    refine wpAnyH_take (i := 17) (v := ?vvc17) rfl (by kernel_rfl) (by kernel_rfl) (by kernel_rfl) (fun _ _ _ h => h) (Or.inl ⟨by rfl, ?hyc17⟩) hHeld ?restc17; (case hyc17 => (intro w hSw; (try dsimp only at hSw); go_simp; all_goals (with_reducible rfl))); simp only [Act.put, List.setIfInBounds_toArray, List.set_cons_zero, List.set_cons_succ]
    refine wpAnyH_done (by kernel_rfl) ?_ _
    clear hHeld
    have hs7 := Hb7.out.size
    go_wp2_with (first
      | (go_at_call 16
         refine (awake13_any _).mono ?_
         rintro e w9 ⟨rfl, hb9⟩)
      | fail)
    go_ret
    exact ⟨rfl, Hb3.out.trans ((Hbd.out.trans ((Hb7.out.trans (hb9.mono hs7)).mono hsd)).mono hs3)⟩
end Go.Proofs.YtglanlpjoaholaaGreat
