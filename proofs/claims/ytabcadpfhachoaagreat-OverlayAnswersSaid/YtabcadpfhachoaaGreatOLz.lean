/- OverlayAnswers: the walk. -/
import Derived.Test.YtabcadpfhachoaaGreatOM2
namespace Go.Proofs.YtabcadpfhachoaaGreat
open Go.RowKit Go.Shelf
set_option linter.unusedVariables false
set_option linter.unusedSimpArgs false

set_option maxHeartbeats 32000000 in
set_option maxRecDepth 100000 in
theorem answers07 (AR : Option Addr) (nr cr : Nat) (LR : RL) (AF : Option Addr) (nf cf : Nat) (LF : FL) (D : Option Addr) (kk : Nat) (ra : List R4) (st : Int) (A : Option Addr) (n c : Nat) (zs : List Int) (w : World)
    (hR : SlG w AR nr cr LR) (hF : SlF w AF nf cf LF) (hD : SlR w D ra.length kk ra) (hst : (Lit.int .i64 st).wf = true)
    (hn : zs.length = n) (hc : n ≤ c) (hm : c ≤ maxLen) (hw : ∀ z ∈ zs, (Lit.int .i64 z).wf = true) (hL : Lies w A n (zs.map (.int .i64))) :
    Calls Tryz.prog 4 #[.slice AR nr cr, .slice AF nf cf, .agg #[.slice D ra.length kk], .int .i64 st, .slice A n c] w fun e w' => e = .returned (.bool true) ∧ Below w.heap.size w w' := by
  obtain ⟨i0, hi, hz0, hz1, hz2⟩ := info_parts Tryz.infoRegion
  obtain ⟨j0, hjj, hy0, hy1, hy2⟩ := info_parts Tryz.infoFace
  have HM15 := Lib.hid (fun W => mod_any st 15 W (bounds_i64 hst) (by omega))
  have HM5 := Lib.hid (fun W => mod_any st 5 W (bounds_i64 hst) (by omega))
  have HM16 := Lib.hid (fun W => mod_any st 16 W (bounds_i64 hst) (by omega))
  have Hmk := Lib.hid (fun (k : Nat) (hk : k ≤ 1000) W => mod_any st (k : Int) W (bounds_i64 hst) (by omega))
  have hst63 := (bounds_i64 hst).2
  have Hb15 := Lib.hid (modV_bd st 15 (by omega))
  have Hb5 := Lib.hid (modV_bd st 5 (by omega))
  have Hb16 := Lib.hid (modV_bd st 16 (by omega))
  clear hst
  go_enter Tryz.func4, Tryz.ntmps4
  go_upto_region 1 with fail
  obtain ⟨wa, hwa⟩ : ∃ wa : World, wa = w.alloc (.cells #[.slice D ra.length kk] 34) := ⟨_, rfl⟩
  rw [← hwa]
  have Hra : Hid (wa.heap[w.heap.size]? = some (.cells #[.slice D ra.length kk] 34 (0, 0))) := Lib.hid (by rw [hwa]; exact heap_alloc_new w _)
  have Hba : Hid (Below w.heap.size w wa) := Lib.hid (by rw [hwa]; exact (by repeat' (first | with_reducible exact Below.refl _ _ | with_reducible refine below_drewN ?_ _ | with_reducible refine Below.drew ?_ | with_reducible refine Below.alloc ?_ ?_ _ | with_reducible refine Below.setCell ?_ ?_ _ | with_reducible refine Below.trans ?_ (Below.mono (by with_reducible assumption) ?_) | (simp; done) | (simp; omega) | omega)))
  have hsa : w.heap.size < wa.heap.size := by rw [hwa]; simp
  have HR := Lib.hid (hR.below Hba.out)
  have HF := Lib.hid (hF.below Hba.out)
  have HD := Lib.hid (hD.below Hba.out)
  have HN := Lib.hid (new_any A n c zs wa hn hc hm hw (hL.below Hba.out))
  have cx0 := cell_of_row _ _ 0 _ _ _ Hra.out
  clear hwa hR hF hD hL hw hn
  by_cases h1 : 6 < nr
  · have h1' : (6 : Int) < (nr : Int) := by omega
    have h1d : decide (6 < nr) = true := decide_eq_true h1
    go_wp2_with (first | (go_at_call 11; refine (awake07_any _).mono ?_; rintro e w1 ⟨rfl, hb1⟩; have Hb1 := Lib.hid hb1; clear hb1) | fail)
    go_ret
    exact ⟨rfl, Hba.out.trans (Hb1.out.mono (by omega))⟩
  have h1' : ¬ (6 : Int) < (nr : Int) := by omega
  have h1d : decide (6 < nr) = false := decide_eq_false h1
  by_cases h2 : 20 < nf
  · have h2' : (20 : Int) < (nf : Int) := by omega
    have h2d : decide (20 < nf) = true := decide_eq_true h2
    go_wp2_with (first | (go_at_call 11; refine (awake07_any _).mono ?_; rintro e w1 ⟨rfl, hb1⟩; have Hb1 := Lib.hid hb1; clear hb1) | fail)
    go_ret
    exact ⟨rfl, Hba.out.trans (Hb1.out.mono (by omega))⟩
  have h2' : ¬ (20 : Int) < (nf : Int) := by omega
  have h2d : decide (20 < nf) = false := decide_eq_false h2
  by_cases h3 : 8 < ra.length
  · have h3' : (8 : Int) < (ra.length : Int) := by omega
    have h3d : decide (8 < ra.length) = true := decide_eq_true h3
    go_wp2_with (first | (go_at_call 11; refine (awake07_any _).mono ?_; rintro e w1 ⟨rfl, hb1⟩; have Hb1 := Lib.hid hb1; clear hb1) | fail)
    go_ret
    exact ⟨rfl, Hba.out.trans (Hb1.out.mono (by omega))⟩
  have h3' : ¬ (8 : Int) < (ra.length : Int) := by omega
  have h3d : decide (8 < ra.length) = false := decide_eq_false h3
  go_upto_region 4 with fail
  clear cx0
  go_loopw [69] (fun iv wr => ∃ k : Nat, iv = .int .i64 (k : Int) ∧ k ≤ nr ∧ Hid (∀ a ∈ (rgs LR).take k, a.length ≤ 5) ∧ wr = wa) (fun iv _ => nr - (intOf iv).toNat)
  case atStart => exact ⟨0, rfl, by omega, Lib.hid (fun a h => by simp at h), rfl⟩
  case round =>
    obtain ⟨k, rfl, hkn, Hsm, rfl⟩ := hrel
    by_cases hk : k < nr
    · have hk' : (k : Int) < (nr : Int) := by omega
      have hkl : k < LR.length := by have := HR.out.len; omega
      obtain ⟨b, off, rfl, hb, c0, _⟩ := HR.out.at k hkl
      have Hnx : Hid (LR[k].1.length ≤ 5 → ∀ a ∈ (rgs LR).take (k + 1), a.length ≤ 5) := Lib.hid (fun h a ha => by
        have hg : (rgs LR)[k]'(by rw [rgs_len]; exact hkl) = LR[k].1 := by simp [rgs]
        rw [List.take_succ_eq_append_getElem (by rw [rgs_len]; exact hkl), hg] at ha
        rcases List.mem_append.1 ha with ha | ha
        · exact Hsm.out a ha
        · rw [List.mem_singleton] at ha; rw [ha]; exact h)
      obtain ⟨q, hq⟩ : ∃ q, LR[k].1.length = q := ⟨_, rfl⟩
      obtain ⟨E, hE⟩ : ∃ E, LR[k].2.a = E := ⟨_, rfl⟩
      obtain ⟨d, hd⟩ : ∃ d, LR[k].2.c = d := ⟨_, rfl⟩
      rw [hq] at Hnx
      rw [hq, hE, hd] at c0
      clear hq hE hd
      by_cases h5 : 5 < q
      · have h5' : (5 : Int) < (q : Int) := by omega
        go_wp2_with (first | (go_at_call 11; refine (awake07_any _).mono ?_; rintro e w1 ⟨rfl, hb1⟩; have Hb1 := Lib.hid hb1; clear hb1) | fail)
        go_ret
        exact ⟨rfl, Hba.out.trans (Hb1.out.mono (by omega))⟩
      · have h5' : ¬ (5 : Int) < (q : Int) := by omega
        go_wp2
        go_roundw
        case rel => exact ⟨k + 1, by go_num, by omega, Lib.hid (Hnx.out (by omega)), trivial⟩
        case measure => simp [intOf]; omega
    · obtain rfl : k = nr := by omega
      have Hsr : Hid (∀ a ∈ rgs LR, a.length ≤ 5) := Lib.hid (by
        have := Hsm.out
        rwa [List.take_of_length_le (by rw [rgs_len, HR.out.len]; exact Nat.le_refl _)] at this)
      clear Hsm hkn hk
      obtain ⟨nr, rfl⟩ : ∃ nr : Nat, nr = k := ⟨_, rfl⟩
      obtain ⟨wa, rfl⟩ : ∃ wa : World, wa = wr := ⟨_, rfl⟩
      go_upto_region 10 with fail
      go_loopw [83] (fun iv wr => ∃ k : Nat, iv = .int .i64 (k : Int) ∧ k ≤ nf ∧ Hid (∀ a ∈ (fcs LF).take k, a.rg.length ≤ 5) ∧ wr = wa) (fun iv _ => nf - (intOf iv).toNat)
      case atStart => exact ⟨0, rfl, by omega, Lib.hid (fun a h => by simp at h), rfl⟩
      case round =>
        obtain ⟨k, rfl, hkn, Hsm, rfl⟩ := hrel
        by_cases hk : k < nf
        · have hk' : (k : Int) < (nf : Int) := by omega
          have hkl : k < LF.length := by have := HF.out.len; omega
          obtain ⟨b, off, rfl, hb, c0, c1, _⟩ := HF.out.at k hkl
          have Hnx : Hid (LF[k].1.rg.length ≤ 5 → ∀ a ∈ (fcs LF).take (k + 1), a.rg.length ≤ 5) := Lib.hid (fun h a ha => by
            have hg : (fcs LF)[k]'(by rw [fcs_len]; exact hkl) = LF[k].1 := by simp [fcs]
            rw [List.take_succ_eq_append_getElem (by rw [fcs_len]; exact hkl), hg] at ha
            rcases List.mem_append.1 ha with ha | ha
            · exact Hsm.out a ha
            · rw [List.mem_singleton] at ha; rw [ha]; exact h)
          obtain ⟨q, hq⟩ : ∃ q, LF[k].1.rg.length = q := ⟨_, rfl⟩
          obtain ⟨E, hE⟩ : ∃ E, LF[k].2.a = E := ⟨_, rfl⟩
          obtain ⟨d, hd⟩ : ∃ d, LF[k].2.c = d := ⟨_, rfl⟩
          rw [hq] at Hnx
          rw [hq, hE, hd] at c1
          clear hq hE hd c0
          by_cases h5 : 5 < q
          · have h5' : (5 : Int) < (q : Int) := by omega
            go_wp2_with (first | (go_at_call 11; refine (awake07_any _).mono ?_; rintro e w1 ⟨rfl, hb1⟩; have Hb1 := Lib.hid hb1; clear hb1) | fail)
            go_ret
            exact ⟨rfl, Hba.out.trans (Hb1.out.mono (by omega))⟩
          · have h5' : ¬ (5 : Int) < (q : Int) := by omega
            go_wp2
            go_roundw
            case rel => exact ⟨k + 1, by go_num, by omega, Lib.hid (Hnx.out (by omega)), trivial⟩
            case measure => simp [intOf]; omega
        · obtain rfl : k = nf := by omega
          have Hsf : Hid (∀ a ∈ fcs LF, a.rg.length ≤ 5) := Lib.hid (by
            have := Hsm.out
            rwa [List.take_of_length_le (by rw [fcs_len, HF.out.len]; exact Nat.le_refl _)] at this)
          clear Hsm hkn hk
          obtain ⟨nf, rfl⟩ : ∃ nf : Nat, nf = k := ⟨_, rfl⟩
          obtain ⟨wa, rfl⟩ : ∃ wa : World, wa = wr := ⟨_, rfl⟩
          generalize zs.take 400 = r at *
          go_upto_region 17 with (first
            | (go_at_call 5
               refine HN.out.mono ?_
               rintro e w1 ⟨g, rfl, hg, ht, hb1⟩
               have HT1 := Lib.hid ht
               have Hb1 := Lib.hid hb1
               have hs1 := hb1.size
               clear ht hb1)
            | (go_at_call 12
               refine (next_any g r 4 _ HT1.out (by omega)).mono ?_
               rintro e w2 ⟨rfl, ht2, hg2⟩
               have HT2 := Lib.hid ht2
               have Hb2 : Hid (Below wa.heap.size wa w2) := Lib.hid (below_only Hb1.out hg2 hg hs1)
               have hnb := nx_bd r 4 (by omega)
               obtain ⟨N, hN⟩ := Int.eq_ofNat_of_zero_le hnb.1
               rw [hN] at hnb ⊢
               have hs2 := hg2.size
               have hg2' : g < w2.heap.size := ht2.lt
               clear ht2 hg2 hN)
            | (go_at_call 6
               refine (regions_any g N r.tail 7 2 _ HT2.out (by omega) (by omega) (by omega)).mono ?_
               rintro e w3 ⟨v3, L, rfl, hR3, hL3, ht3, hg3⟩
               have Hms : Hid (∀ a ∈ rgs L, Reg 7 6 a) := Lib.hid (by rw [hL3]; exact mkRegs_ok N r.tail 7 (by omega) (by omega))
               have hLn : L.length = N := by have := congrArg List.length hL3; rw [rgs_len, mkRegs_len] at this; exact this
               have HLn := Lib.hid hLn
               have Hb3 : Hid (Below wa.heap.size wa w3) := Lib.hid (below_only Hb2.out hg3 hg Hb2.out.size)
               obtain ⟨A3, c3, rfl, _, _, _⟩ := own_slice hR3.o
               have HR3 := Lib.hid hR3
               rw [hLn]
               have HT3 := Lib.hid ht3
               have hs3 := hg3.size
               clear hR3 hL3 ht3 hg3 hLn)
            | fail)
          generalize tapeK r.tail 7 2 N = r3 at *
          obtain ⟨F, hF, hok⟩ := (regs_faces (s := 7) (by omega) (by rw [rgs_len, HLn.out]; omega) Hms.out).2
          have hfl := (regs_faces (s := 7) (m := rgs L) (by omega) (by rw [rgs_len, HLn.out]; omega) Hms.out).1
          have Hfl := Lib.hid hfl
          have HFm := Lib.hid hF
          have Hok := Lib.hid hok
          have hFn : F.length ≤ 15 := by
            have h1 := faces_len hok
            rw [rgs_len, HLn.out] at h1
            have h2 : 2 ^ N ≤ 2 ^ 4 := Nat.pow_le_pow_right (by omega) (by omega)
            omega
          have HG3 : Hid (SlG w3 A3 N c3 L) := Lib.hid (by have h := HR3.out.slg; rw [HLn.out] at h; exact h)
          have hrd : Hid (Reads w3 w3.heap.size 1 A3 N (rgCells L)) := Lib.hid (HG3.out.lies.reads (by simp [rgCells]; exact HLn.out))
          have hlt3 : g < w3.heap.size := HT3.out.lt
          obtain ⟨⟨rg, r5⟩, hp1⟩ : ∃ p, mkBrk r3 7 2 = p := ⟨_, rfl⟩
          have HB := Lib.hid (fun W (hW : TapeAt W g r3) => broken_any g r3 7 2 W hW (by omega) (by omega))
          rw [hp1] at HB
          have hrg7 : rg.length ≤ 7 := by have := mkBrk_two r3 7 (by omega); rw [hp1] at this; exact this
          clear hp1 hF hok hfl
          go_upto_region 19 with (first
            | (at_builtin
               refine wpList_append_any _ rfl (.tmp 102) (.tmp 103) _ rfl w3.heap.size 34 i0 _ 1 24 Tryz.underlying25 hi hz0 hz1 hz2 rfl (by omega) (.slice (some ⟨w3.heap.size, 0, none⟩) 0 0) 0 [] rfl (own_lit w3 34 1 0 #[] [] rfl (by simp) (Nat.zero_le _)) _ A3 N _ (rgCells L) rfl (hrd.out.below ((Below.refl _ _).alloc (Nat.le_refl _) _)) (rgCells_one L) (by simp only [maxLen]; omega) (by omega) (by simp) ?_
               intro v4 w4 hown4 hg4 hat4
               rw [List.nil_append, Nat.zero_add] at hown4
               have hb4 : Below w3.heap.size w3 w4 := ((Below.refl _ _).alloc (Nat.le_refl _) _).grown hg4 (by simp) (fun x hx => by simp [Value.ownBlock] at hx; omega)
               obtain ⟨A4, c4, rfl, _, _, _⟩ := own_slice hown4
               have Hown4 := Lib.hid hown4
               have Hb4 := Lib.hid hb4
               have hs4 := hb4.size
               have HT4 : Hid (TapeAt w4 g r3) := Lib.hid (HT3.out.below hb4 hlt3)
               clear hown4 hg4 hat4 hb4)
            | (go_at_call 13
               refine (HB.out _ HT4.out).mono ?_
               rintro e w5 ⟨v5, rfl, hown5, ht5, hg5⟩
               simp only at hown5 ht5
               obtain ⟨A5, c5, rfl, _, _, _⟩ := own_slice hown5
               have Hown5 := Lib.hid hown5
               have Hg5 := Lib.hid hg5
               have HT5 := Lib.hid ht5
               have hs5 := hg5.size
               clear hown5 ht5 hg5)
            | (at_builtin
               refine wpList_append_any _ rfl (.tmp 104) (.tmp 107) _ rfl w3.heap.size 34 i0 _ 1 24 Tryz.underlying25 hi hz0 hz1 hz2 rfl (by omega) _ N (rgCells L) rfl (World.ownsRow.alloc (ownsRow_only Hown4.out Hg5.out hlt3) _) _ _ 1 1 [.slice A5 rg.length c5] rfl ⟨rfl, fun _ => ⟨_, rfl, Nat.lt_succ_self _, fun j u hu => (by exact World.news_of_block (heap_alloc_new w5 (.cells #[.slice A5 rg.length c5] 34)) j u hu)⟩⟩ (by simp [Value.oneCell']) (by simp only [maxLen]; omega) (by omega) (by first | (simp; done) | (simp; omega)) ?_
               intro v6 w6 hown6 hg6 hat6
               obtain ⟨VA, vc, rfl, hl6, hn6, hc6⟩ := own_slice hown6
               have hob4 := own_base Hown4.out
               have hob6 := own_base hown6
               have Hg36 : Hid (w3.grownBy w6 (some g)) := Lib.hid (only_grown (only_alloc (only_trans (only_below (World.grownBy.refl w3 (some g)) Hb4.out (Nat.le_refl _)) Hg5.out) _) hg6 (fun x e => hob4 x e))
               have HO6 : Hid (RsOwn w6 w2.heap.size (.slice VA (N + 1) vc) (L ++ [(rg, ⟨A5, c5⟩)])) := Lib.hid ⟨by
                   rw [List.length_append, HLn.out, show rgCells (L ++ [(rg, ⟨A5, c5⟩)]) = rgCells L ++ [.slice A5 rg.length c5] by simp [rgCells, rgC]]
                   exact own_rebase hown6 (by omega), fun y hy => by
                   rcases List.mem_append.1 hy with h | h
                   · exact (HR3.out.only Hg36.out hg2').fs y h
                   · rw [List.mem_singleton] at h
                     subst h
                     exact own_rebase (own_grown (Hown5.out.alloc _) hg6 (fun b hb e => by
                       have h1 := own_lt Hown4.out b e
                       have h2 := own_base Hown5.out b hb
                       omega)) (by omega), fun y hy q hq e => by
                   have h0 := hob6 q hq
                   rcases List.mem_append.1 hy with h | h
                   · have := own_lt (HR3.out.fs y h) q e
                     omega
                   · rw [List.mem_singleton] at h
                     subst h
                     have h1 := own_base Hown5.out q e
                     have h2 := own_lt Hown5.out q e
                     rcases hat6 with h6 | h6
                     · have := own_lt Hown4.out q (h6.symm.trans hq)
                       omega
                     · rw [h6] at hq
                       injection hq with hq
                       simp at hq
                       omega⟩
               have HR6 := Lib.hid (HR3.out.only Hg36.out hg2')
               have HT6 : Hid (TapeAt w6 g r5) := Lib.hid (by
                 have hlt5 := HT5.out.lt
                 exact (HT5.out.alloc _).grown hg6 (fun k e => by have := hob4 _ e; omega))
               have hs6 := hg6.size
               simp only [World.size_alloc] at hs6
               have Hb6 : Hid (Below wa.heap.size wa w6) := Lib.hid (below_only Hb3.out Hg36.out hg (by omega))
               clear hown6 hg6 hat6 hob4 hl6 hn6 hc6 hob6)
            | (go_at_call 14
               have hfc := facesR_any A3 N c3 L w6 (by have h := HR6.out.slg; rw [HLn.out] at h; exact h) Hfl.out
               rw [HFm.out] at hfc
               refine hfc.mono ?_
               intro e w7 h7
               obtain ⟨fl, A7, c7, rfl, hF7, hfl7, hb7⟩ := h7.parts
               have HF7 := Lib.hid hF7
               have Hfl7 := Lib.hid hfl7
               have Hb7 := Lib.hid hb7
               have hs7 := hb7.size
               have hfn7 : fl.length = F.length := by have := congrArg List.length hfl7; simpa [fcs] using this
               clear hfc h7 hF7 hfl7 hb7)
            | fail)
          obtain ⟨n15, hn15⟩ := Int.eq_ofNat_of_zero_le Hb15.out.1
          obtain ⟨n5, hn5⟩ := Int.eq_ofNat_of_zero_le Hb5.out.1
          have hn15' : n15 < 15 := by have := Hb15.out.2; omega
          have hn5' : n5 < 5 := by have := Hb5.out.2; omega
          rw [hn15] at HM15
          rw [hn5] at HM5
          obtain ⟨n58, hn58⟩ : ∃ n58 : Nat, n58 = 58 + n5 := ⟨_, rfl⟩
          have hadd : IntKind.i64.wrap ((58 : Int) + (n5 : Int)) = (n58 : Int) := by rw [IntWalk.i64_in _ (by omega)]; omega
          have Hn58 := Lib.hid hn58
          have hn58' : n58 ≤ 62 := by omega
          clear hn58
          have hmk1 := fun W : World => run_make_rg n15 (by omega) W
          have hmk2 := fun W : World => run_make_rg n58 (by omega) W
          clear hn15 hn5 Hb15 Hb5
          have Hra7 : Hid (w7.heap[w.heap.size]? = some (.cells #[.slice D ra.length kk] 34 (0, 0))) := Lib.hid ((Hb7.out.block _ (by omega)).trans ((Hb6.out.block _ hsa).trans Hra.out))
          have cx7 := cell_of_row _ _ 0 _ _ _ Hra7.out
          go_cut [124, 125, 126] (fun s1 s2 s3 wx => ∃ Q X Y : Nat, s1 = .slice (some ⟨Q, 0, none⟩) 5 5 ∧ s2 = .int .i64 5 ∧ s3 = .int .i64 0 ∧ w7.heap.size ≤ Q ∧ wx.heap[Q]? = some (.cells #[.slice AR nr cr, .slice A3 N c3, .slice VA (N + 1) vc, .slice (some ⟨X, 0, none⟩) n15 n15, .slice (some ⟨Y, 0, none⟩) n58 n58] 25 (0, 0)) ∧ wx.ownsRow w7.heap.size 34 1 (.slice (some ⟨X, 0, none⟩) n15 n15) n15 (List.replicate n15 (.slice none 0 0)) ∧ wx.ownsRow w7.heap.size 34 1 (.slice (some ⟨Y, 0, none⟩) n58 n58) n58 (List.replicate n58 (.slice none 0 0)) ∧ Below w7.heap.size w7 wx)
          case first =>
            have h15m : n15 ≤ maxLen := by unfold maxLen; omega
            have h58m : n58 ≤ maxLen := by unfold maxLen; omega
            have hadd' : wrap64 ((58 : Int) + (n5 : Int)) = (n58 : Int) := by rw [← IntWalk.i64_left]; exact hadd
            go_region_held3 (fun w' => True)
              (first | trivial)
              (first
                | (go_at_call_of 15 (Value.int IntKind.i64 15); refine (HM15.out _).mono ?_; rintro e w' ⟨rfl, rfl⟩)
                | (go_at_call_of 15 (Value.int IntKind.i64 5); refine (HM5.out _).mono ?_; rintro e w' ⟨rfl, rfl⟩)
                | fail)
            all_goals go_wp2
            all_goals go_meet
            all_goals first
              | (with_reducible exact five_leafA _ _ _ _ _ _ h15m h58m)
              | (with_reducible exact five_leafB _ _ _ _ _ _ h15m h58m)
          case rest =>
            obtain ⟨wL, rfl⟩ : ∃ wL : World, wL = wc := ⟨_, rfl⟩
            obtain ⟨Q, X, Y, rfl, rfl, rfl, hQ7, hQL, hX, hY, hbL⟩ := hcut
            have hlt7 : g < w7.heap.size := by omega
            have HTL : Hid (TapeAt wL g r5) := Lib.hid ((HT6.out.below Hb7.out (by omega)).below hbL hlt7)
            have hQs : Q < wL.heap.size := (Array.getElem?_eq_some_iff.1 hQL).1
            have hsL := hbL.size
            have HbaL : Hid (Below wa.heap.size wa wL) := Lib.hid ((Hb6.out.trans (Hb7.out.mono (by omega))).trans (hbL.mono (by omega)))
            have Hra8 : Hid (wL.heap[w.heap.size]? = some (.cells #[.slice D ra.length kk] 34 (0, 0))) := Lib.hid ((HbaL.out.block _ hsa).trans Hra.out)
            have HA : Hid (∀ W, wL.grownBy W (some g) → W.cell? ⟨w.heap.size, 0, none⟩ = some (.slice D ra.length kk) ∧ SlR W D ra.length kk ra) := Lib.hid (fun W hW => ⟨cell_of_row _ _ 0 _ _ _ ((hW.block _ (by omega) (fun e => by injection e; omega)).trans Hra8.out), HD.out.below (below_only HbaL.out hW hg (by omega))⟩)
            have Hfive : Hid (∀ j, j < 5 → ∃ (A : Option Addr) (n c : Nat) (l : RL), (rgs l).flatten.length ≤ 45 ∧ n ≤ 62 ∧ ∀ W, wL.grownBy W (some g) → W.cell? ⟨Q, j, none⟩ = some (.slice A n c) ∧ SlG W A n c l) := Lib.hid (by
              intro j hj
              have hcell : ∀ W, wL.grownBy W (some g) → W.heap[Q]? = _ := fun W hW => (hW.block Q hQs (fun e => by injection e; omega)).trans hQL
              have hmine := (HR6.out.below Hb7.out).below hbL
              have hodd := (HO6.out.below Hb7.out).below hbL
              rcases (show j = 0 ∨ j = 1 ∨ j = 2 ∨ j = 3 ∨ j = 4 by omega) with rfl | rfl | rfl | rfl | rfl
              · refine ⟨AR, nr, cr, LR, ?_, by omega, fun W hW => ⟨cell_of_row _ _ 0 _ _ _ (hcell W hW), HR.out.below (below_only HbaL.out hW hg (by omega))⟩⟩
                have h1 := flat_few Hsr.out
                have h2 := HR.out.len
                rw [rgs_len, h2] at h1
                omega
              · refine ⟨A3, N, c3, L, Hfl.out, by omega, fun W hW => ⟨cell_of_row _ _ 1 _ _ _ (hcell W hW), ?_⟩⟩
                have h := (hmine.only hW hg2').slg
                rw [HLn.out] at h
                exact h
              · refine ⟨VA, N + 1, vc, L ++ [(rg, ⟨A5, c5⟩)], ?_, by omega, fun W hW => ⟨cell_of_row _ _ 2 _ _ _ (hcell W hW), ?_⟩⟩
                · have h1 := regs_flat Hms.out
                  rw [rgs_len, HLn.out] at h1
                  have : rgs (L ++ [(rg, (⟨A5, c5⟩ : LV))]) = rgs L ++ [rg] := by simp [rgs]
                  rw [this, List.flatten_append, List.length_append]
                  simp only [List.flatten_cons, List.flatten_nil, List.append_nil]
                  omega
                · have hl : (L ++ [(rg, (⟨A5, c5⟩ : LV))]).length = N + 1 := by rw [List.length_append, HLn.out]; rfl
                  have h := hodd.only hW hg2'
                  rw [← hl] at h
                  have h := h.slg
                  rw [hl] at h
                  exact h
              · exact ⟨_, n15, n15, _, nilG_flat n15, by omega, fun W hW => ⟨cell_of_row _ _ 3 _ _ _ (hcell W hW), nilG (ownsRow_only hX hW hlt7)⟩⟩
              · exact ⟨_, n58, n58, _, nilG_flat n58, by omega, fun W hW => ⟨cell_of_row _ _ 4 _ _ _ (hcell W hW), nilG (ownsRow_only hY hW hlt7)⟩⟩)
            have HF7L := Lib.hid (HF7.out.below hbL)
            have hgL : g < wL.heap.size := by omega
            have hg7 : g < w6.heap.size := by omega
            have hwg : w.heap.size < g := by omega
            have hwaL : wa.heap.size ≤ wL.heap.size := by omega
            have h67 : w6.heap.size ≤ wL.heap.size := by omega
            clear hX hY hQL hbL hQ7 HD HR Hra8 Hra7 Hra HR6 HO6 HB HT6 HT5 HT4 HT3 HT2 HT1 Hb1 Hb2 Hb3 Hb4 Hb6 Hb7 Hown4 Hown5 Hg5 Hg36 HM15 HM5 HF7 HN HR3 HG3 hrd hmk1 hmk2 cx7 hadd Hn58 Hsr
            go_upto_region 20 with fail
            go_loopw [126] (fun iv wr => ∃ (j : Nat) (r' : List Int), iv = .int .i64 (j : Int) ∧ j ≤ 5 ∧ TapeAt wr g r' ∧ wL.grownBy wr (some g)) (fun iv _ => 5 - (intOf iv).toNat)
            case atStart => exact ⟨0, r5, rfl, by omega, HTL.out, World.grownBy.refl _ _⟩
            case round =>
              obtain ⟨j, r', rfl, hj5, ht, hkr⟩ := hrel
              have HT := Lib.hid ht
              have Hkr := Lib.hid hkr
              have hsr := hkr.size
              clear ht hkr
              by_cases hj : j < 5
              · as_aux_lemma =>
                  have hj' : (j : Int) < 5 := by omega
                  obtain ⟨M, mn, mc, ml, hmf, hm62, hM⟩ := Hfive.out j hj
                  have HM := Lib.hid hM
                  have cQ := (hM wr Hkr.out).1
                  have HMr := Lib.hid (hM wr Hkr.out).2
                  obtain ⟨hAc, hAs⟩ := HA.out wr Hkr.out
                  clear hM
                  have Hmf := Lib.hid hmf
                  obtain ⟨⟨Fm, em⟩, hFm⟩ : ∃ p, facesP (rgs ml) = p := ⟨_, rfl⟩
                  obtain ⟨⟨cb, ce⟩, hcov⟩ : ∃ p, coverP ra (rgs ml) = p := ⟨_, rfl⟩
                  have Hfm := Lib.hid hFm
                  have Hcov := Lib.hid hcov
                  clear hFm hcov hmf
                  go_upto_region 24 with (first
                    | (go_at_call 8
                       have hfc := faces_any M mn mc ml wr HMr.out Hmf.out
                       rw [Hfm.out] at hfc
                       refine hfc.mono ?_
                       intro e w8 h8
                       obtain ⟨pl, P8, p8, rfl, hF8, hp8, hb8⟩ := h8.parts
                       have HF8 := Lib.hid hF8
                       have Hp8 := Lib.hid hp8
                       have Hb8 := Lib.hid hb8
                       have hs8 := hb8.size
                       clear hfc h8 hF8 hp8 hb8)
                    | (go_at_call 14
                       have hfc := facesR_any M mn mc ml w8 (HMr.out.below Hb8.out) Hmf.out
                       rw [Hfm.out] at hfc
                       refine hfc.mono ?_
                       intro e w9 h9
                       obtain ⟨ql, Q9, q9, rfl, hF9, hq9, hb9⟩ := h9.parts
                       have HF9 := Lib.hid hF9
                       have Hq9 := Lib.hid hq9
                       have Hb9 : Hid (Below wr.heap.size wr w9) := Lib.hid (Hb8.out.trans (hb9.mono hs8))
                       have Hb89 := Lib.hid hb9
                       have hs9 := hb9.size
                       clear hfc h9 hF9 hq9 hb9)
                    | fail)
                  have hsr9 := Hb9.out.size
                  have Hk9 : Hid (wL.grownBy w9 (some g)) := Lib.hid (only_below Hkr.out Hb9.out hsr)
                  obtain ⟨hAc9, hAs9⟩ := HA.out w9 Hk9.out
                  have HAs9 := Lib.hid hAs9
                  have HM9 := Lib.hid (HM.out w9 Hk9.out).2
                  have hra53 : ra.length + (rgs ml).flatten.length ≤ 60 := by have := Hmf.out; omega
                  have Hra53 := Lib.hid hra53
                  have HT9 : Hid (TapeAt w9 g r') := Lib.hid (HT.out.below Hb9.out (by omega))
                  clear cQ hAc hAs hAs9 hra53
                  obtain ⟨⟨rb, r6⟩, hrb⟩ : ∃ p, mkReg r' 5 1 = p := ⟨_, rfl⟩
                  have HRg := Lib.hid (fun W (hW : TapeAt W g r') => region_any g r' 5 1 W hW (by omega) (by omega))
                  rw [hrb] at HRg
                  have hrbR : Reg 5 1 rb := by have := mkReg_reg r' 5 1 (by omega) (by omega) (by omega) (by omega); rw [hrb] at this; exact this
                  have HrbR := Lib.hid hrbR
                  have hrb1 : rb.length ≤ 1 := hrbR.len
                  have hrbv : validP rb = true := hrbR.valid (by omega) (by omega)
                  have Hthen := Lib.hid (cover_then (a := ra) (m := rgs ml) hrbv)
                  obtain ⟨⟨xb, xe⟩, hxc⟩ : ∃ p, coverP rb (rgs ml) = p := ⟨_, rfl⟩
                  rw [Hcov.out, hxc] at Hthen
                  have Hxc := Lib.hid hxc
                  clear hrb hrbR hrbv hxc
                  go_upto_region 27 with (first
                    | (go_at_call 9
                       have hguard := HSC.out
                       have hcv := cover_any M DC mn mc rb.length kC rb ml wC HSC.out HMC.out (by have := Hmf.out; omega)
                       rw [Hxc.out] at hcv
                       refine hcv.mono ?_
                       rintro e wE ⟨rfl, hbE⟩
                       have HbE := Lib.hid hbE
                       have hsE := hbE.size
                       clear hcv hbE hguard)
                    | (go_at_call 9
                       have hcv := cover_any M D mn mc ra.length kk ra ml w9 HAs9.out HM9.out (by have := Hmf.out; omega)
                       rw [Hcov.out] at hcv
                       refine hcv.mono ?_
                       rintro e wA ⟨rfl, hbA⟩
                       have HbA := Lib.hid hbA
                       have hsA := hbA.size
                       obtain ⟨hAcA, hAsA⟩ := HA.out wA (only_below Hk9.out hbA (by omega))
                       have HAsA := Lib.hid hAsA
                       have HMA := Lib.hid (HM9.out.below hbA)
                       clear hcv hbA hAsA hAc9)
                    | (go_at_call 16
                       have hcv := coverR_any M D mn mc ra.length kk ra ml wA HAsA.out HMA.out Hra53.out
                       rw [Hcov.out] at hcv
                       refine hcv.mono ?_
                       rintro e wB ⟨rfl, hbB⟩
                       have HbB : Hid (Below w9.heap.size w9 wB) := Lib.hid (HbA.out.trans (hbB.mono hsA))
                       have hsB := HbB.out.size
                       have HTB : Hid (TapeAt wB g r') := Lib.hid (HT9.out.below HbB.out (by omega))
                       clear hcv hbB hAcA)
                    | (go_at_call 17
                       refine (HRg.out wB HTB.out).mono ?_
                       rintro e wC ⟨vC, rfl, hownC, htC, hgC⟩
                       simp only at hownC htC ⊢
                       obtain ⟨DC, kC, rfl, hSC⟩ := SlR.of_own hownC
                       have HSC := Lib.hid hSC
                       have HTC := Lib.hid htC
                       have hsC := hgC.size
                       have HkC : Hid (wL.grownBy wC (some g)) := Lib.hid (only_trans (only_below Hk9.out HbB.out (by omega)) hgC)
                       have HMC := Lib.hid (HM.out wC HkC.out).2
                       have Hg9C : Hid (w9.grownBy wC (some g)) := Lib.hid (only_trans (only_below (World.grownBy.refl _ _) HbB.out (Nat.le_refl _)) hgC)
                       clear hownC htC hgC hSC)
                    | fail)
                  have HME := Lib.hid (HMC.out.below HbE.out)
                  have HD1 := Lib.hid (disjoint_any M mn mc ml wE HME.out)
                  go_upto_region 29 with (first
                    | (go_at_call 10
                       refine HD1.out.mono ?_
                       rintro e wF ⟨i1, k1, b1, e1, rfl, hd1, hbF⟩
                       have Hd1 := Lib.hid hd1
                       have HbF := Lib.hid hbF
                       have hsF := hbF.size
                       have HD2 := Lib.hid (disjointR_any M mn mc ml wF (HME.out.below hbF))
                       clear hd1 hbF)
                    | (go_at_call 18
                       refine HD2.out.mono ?_
                       rintro e wG ⟨i2, k2, b2, e2, rfl, hd2, hbG⟩
                       obtain ⟨hq1, hq2, hq3, hq4⟩ := disj_one hd2 Hd1.out
                       subst hq1 hq2 hq3 hq4
                       have HbG := Lib.hid hbG
                       have hsG := hbG.size
                       clear hd2 hbG)
                    | fail)
                  have HkG : Hid (wL.grownBy wG (some g)) := Lib.hid (only_below (only_below (only_below HkC.out HbE.out (by omega)) HbF.out (by omega)) HbG.out (by omega))
                  have Hg9G : Hid (w9.grownBy wG (some g)) := Lib.hid (only_below (only_below (only_below Hg9C.out HbE.out (by omega)) HbF.out (by omega)) HbG.out (by omega))
                  have HTG : Hid (TapeAt wG g r6) := Lib.hid (((HTC.out.below HbE.out (by omega)).below HbF.out (by omega)).below HbG.out (by omega))
                  have hpn : pl.length ≤ 10000 := by
                    have h1 := facesP_len Hmf.out
                    rw [Hfm.out, ← Hp8.out, fcs_len] at h1
                    omega
                  have HSm : Hid (Calls Tryz.prog 19 #[.slice P8 pl.length p8, .slice Q9 ql.length q9] wG fun e w' => e = .returned (.bool true) ∧ Below wG.heap.size wG w') := Lib.hid (by
                    have h := same07_any P8 Q9 pl.length p8 ql.length q9 pl ql wG ((HF8.out.below Hb89.out).only Hg9G.out (by omega)).slf (HF9.out.only Hg9G.out (by omega)).slf hpn
                    rw [Hp8.out, Hq9.out, sameFP_refl] at h
                    exact h)
                  clear HF8 HF9 HD1 HD2 Hd1 HME HMC HM9 HAs9 HT9 HTC HTB HM HMr
                  have Hend : Hid (∀ W, Below wG.heap.size wG W → TapeAt W g r6 ∧ wL.grownBy W (some g)) := Lib.hid (fun W hW => ⟨HTG.out.below hW HTG.out.lt, only_below HkG.out hW (by omega)⟩)
                  clear Hcov Hxc HRg HbA HbB HbE HbF HbG HkC Hk9 HkG HTG Hg9C Hg9G Hra53 HrbR Hmf Hfm Hp8 Hq9 HAsA HMA HSC Hb8 Hb9 Hb89 Hkr HT
                  by_cases hce : ce = 0
                  · have hxe := Hthen.out.1 hce
                    subst hce hxe
                    clear Hthen
                    cases xb
                    all_goals
                      go_wp2_with (first
                        | (go_at_call 19
                           refine HSm.out.mono ?_
                           rintro e wH ⟨rfl, hbH⟩
                           have HbH := Lib.hid hbH
                           clear hbH)
                        | fail)
                      go_roundw
                      case rel => exact ⟨j + 1, r6, by go_num, by omega, Hend.out wH HbH.out⟩
                      case measure => simp [intOf]; omega
                  · have hce' : (ce == 0) = false := by simpa using hce
                    cases xb
                    · clear Hthen
                      go_wp2_with (first
                        | (go_at_call 19
                           refine HSm.out.mono ?_
                           rintro e wH ⟨rfl, hbH⟩
                           have HbH := Lib.hid hbH
                           clear hbH)
                        | fail)
                      all_goals
                        go_roundw
                        case rel => exact ⟨j + 1, r6, by go_num, by omega, Hend.out wH HbH.out⟩
                        case measure => simp [intOf]; omega
                    · have hxe := Hthen.out.2 rfl
                      subst hxe
                      clear Hthen
                      have hce2 : ((0 : Int) == ce) = false := by simp; omega
                      go_wp2_with (first
                        | (go_at_call 19
                           refine HSm.out.mono ?_
                           rintro e wH ⟨rfl, hbH⟩
                           have HbH := Lib.hid hbH
                           clear hbH)
                        | fail)
                      all_goals
                        go_roundw
                        case rel => exact ⟨j + 1, r6, by go_num, by omega, Hend.out wH HbH.out⟩
                        case measure => simp [intOf]; omega
              · obtain rfl : j = 5 := by omega
                have Hba2 : Hid (Below wa.heap.size wa wr) := Lib.hid (below_only HbaL.out Hkr.out hg hwaL)
                have HFr := Lib.hid (HF.out.below Hba2.out)
                have Hown := Lib.hid (HF7L.out.only Hkr.out (by omega))
                have hwr : wL.heap.size ≤ wr.heap.size := hsr
                clear HF7L HF HTL HA Hfive HbaL Hkr HT hsr hj hj5 hQs
                obtain ⟨wM, rfl⟩ : ∃ wM : World, wM = wr := ⟨_, rfl⟩
                rw [hfn7] at Hown
                have Hfn := Lib.hid hfn7
                obtain ⟨fn, hfn⟩ : ∃ fn, F.length = fn := ⟨_, rfl⟩
                rw [hfn] at Hown Hfn hFn ⊢
                clear hfn7
                have HFn := Lib.hid hfn
                clear hfn
                have Hrs : Hid (SlF wM A7 fn c7 fl) := Lib.hid (by have h := Hown.out; rw [← Hfn.out] at h; have h := h.slf; rw [Hfn.out] at h; exact h)
                have hrd : Hid (Reads wM wM.heap.size 2 A7 fn (fcCells fl)) := Lib.hid (Hrs.out.lies.reads (by rw [fcCells_len, Hfn.out]))
                have Hmod := Lib.hid (fun W => Hmk.out fn (by omega) W)
                have Hmz := Lib.hid (fun h : 0 < fn => modV_bd st (fn : Int) (by omega))
                go_upto_region 33 with (first
                  | (at_builtin
                     refine wpList_append_any _ rfl (.tmp 229) (.tmp 230) _ rfl wM.heap.size 36 j0 _ 2 32 Tryz.underlying28 hjj hy0 hy1 hy2 rfl (by omega) (.slice (some ⟨wM.heap.size, 0, none⟩) 0 0) 0 [] rfl (own_lit wM 36 2 0 #[] [] rfl (by simp) (Nat.zero_le _)) _ A7 fn _ (fcCells fl) rfl (hrd.out.below ((Below.refl _ _).alloc (Nat.le_refl _) _)) (fcCells_one fl) (by simp only [maxLen]; omega) (by omega) (by simp) ?_
                     intro vT wT hownT hgT hatT
                     rw [List.nil_append, Nat.zero_add] at hownT
                     have hbT : Below wM.heap.size wM wT := ((Below.refl _ _).alloc (Nat.le_refl _) _).grown hgT (by simp) (fun x hx => by simp [Value.ownBlock] at hx; omega)
                     obtain ⟨TA, tc, rfl, _, _, _⟩ := own_slice hownT
                     have HownT := Lib.hid hownT
                     have HbT := Lib.hid hbT
                     have hsT := hbT.size
                     clear hownT hgT hatT hbT)
                  | fail)
                by_cases h0 : 0 < fn
                · have h0' : (0 : Int) < (fn : Int) := by omega
                  obtain ⟨kz, hkz⟩ := Int.eq_ofNat_of_zero_le (Hmz.out h0).1
                  have hkz2 := (Hmz.out h0).2
                  rw [hkz] at hkz2 Hmod
                  clear hkz
                  have hkz' : kz < fn := by omega
                  obtain ⟨G, cp, hGe, hGb, hGl, hGn, hGc, hGcell, hGf⟩ := own_at HownT.out h0
                  injection hGe with e1 e2 e3
                  subst e1 e3
                  have hkf : kz < fl.length := by rw [Hfn.out]; exact hkz'
                  have y0 := hGcell _ _ (fcCells_at fl kz hkf).1
                  have f0 := hGf (kz * 2)
                  have hbS : Below wM.heap.size wM (wT.setCell ⟨G, kz * 2, none⟩ (.int .i64 st)) := HbT.out.setCell (by show wM.heap.size ≤ G; exact hGb) _
                  have hpk : ∃ tl : FL, SlF (wT.setCell ⟨G, kz * 2, none⟩ (.int .i64 st)) (some ⟨G, 0, none⟩) fn tc tl ∧ (fcs tl).map Fc.rg = (fcs fl).map Fc.rg ∧ Below wM.heap.size wM (wT.setCell ⟨G, kz * 2, none⟩ (.int .i64 st)) := by
                    refine ⟨fl.set kz (⟨st, fl[kz].1.rg⟩, fl[kz].2), slf_own (by rw [fcCells_set fl kz hkf]; exact own_setN HownT.out (kz * 2) (.int .i64 st)) (by rw [List.length_set, Hfn.out]) (fun x hx => ?_), fcs_set fl kz hkf st, hbS⟩
                    rcases List.mem_or_eq_of_mem_set hx with h | h
                    · exact (Hrs.out.fits x h).below hbS
                    · rw [h]
                      exact (Hrs.out.fits _ (List.getElem_mem hkf)).below hbS
                  have Hpk := Lib.hid hpk
                  clear hGcell hGf hpk hbS HownT HbT Hown hrd
                  go_upto_region 35 with (first
                    | (go_at_call 15; refine (Hmod.out _).mono ?_; rintro e w' ⟨rfl, rfl⟩)
                    | fail)
                  clear y0 f0 h0 h0' hkz2 hkz' hkf
                  generalize wT.setCell ⟨G, kz * 2, none⟩ (.int .i64 st) = wN at *
                  obtain ⟨TA, hTA⟩ : ∃ TA : Option Addr, TA = some ⟨G, 0, none⟩ := ⟨_, rfl⟩
                  rw [← hTA] at Hpk ⊢
                  clear hTA
                  as_aux_lemma =>
                    obtain ⟨tl, htl, htr, hbN⟩ := Hpk.out
                    have HtlN := Lib.hid htl
                    have HbN := Lib.hid hbN
                    have hsN := hbN.size
                    have Htr := Lib.hid (htr.trans (congrArg (List.map Fc.rg) Hfl7.out))
                    clear htl htr hbN Hpk
                    go_upto_region 36 with fail
                    have Hr36 : Hid ((wN.alloc (.cells #[.slice AF nf cf, .slice A7 fn c7, .slice TA fn tc] 28)).heap[wN.heap.size]? = some (.cells #[.slice AF nf cf, .slice A7 fn c7, .slice TA fn tc] 28 (0, 0))) := Lib.hid (heap_alloc_new wN _)
                    have Hb36 : Hid (Below wN.heap.size wN (wN.alloc (.cells #[.slice AF nf cf, .slice A7 fn c7, .slice TA fn tc] 28))) := Lib.hid ((Below.refl _ _).alloc (Nat.le_refl _) _)
                    have hs36 : wN.heap.size < (wN.alloc (.cells #[.slice AF nf cf, .slice A7 fn c7, .slice TA fn tc] 28)).heap.size := by simp
                    generalize wN.alloc (.cells #[.slice AF nf cf, .slice A7 fn c7, .slice TA fn tc] 28) = wP at *
                    obtain ⟨Q3, hQ3⟩ : ∃ Q3, wN.heap.size = Q3 := ⟨_, rfl⟩
                    rw [hQ3] at Hr36 hs36 ⊢
                    have HbP : Hid (Below wM.heap.size wM wP) := Lib.hid (HbN.out.trans (Hb36.out.mono hsN))
                    have Hthree : Hid (∀ j, j < 3 → ∃ (A : Option Addr) (n c : Nat) (l : FL), FewF (fcs l) ∧ n ≤ 200 ∧ ∀ W, Below wP.heap.size wP W → W.cell? ⟨Q3, j, none⟩ = some (.slice A n c) ∧ SlF W A n c l) := Lib.hid (by
                      intro j hj
                      have hcell : ∀ W, Below wP.heap.size wP W → W.heap[Q3]? = _ := fun W hW => (hW.block Q3 hs36).trans Hr36.out
                      have hsP := HbP.out.size
                      rcases (show j = 0 ∨ j = 1 ∨ j = 2 by omega) with rfl | rfl | rfl
                      · refine ⟨AF, nf, cf, LF, few_small ?_ ?_, by omega, fun W hW => ⟨cell_of_row _ _ 0 _ _ _ (hcell W hW), (HFr.out.below HbP.out).below hW⟩⟩
                        · rw [fcs_len, HFr.out.len]; omega
                        · have := rects_few Hsf.out
                          rw [fcs_len, HFr.out.len] at this
                          omega
                      · refine ⟨A7, fn, c7, fl, ?_, by omega, fun W hW => ⟨cell_of_row _ _ 1 _ _ _ (hcell W hW), (Hrs.out.below HbP.out).below hW⟩⟩
                        rw [Hfl7.out]
                        exact few_side (s := 7) (by omega) (by rw [HFn.out]; exact hFn) Hok.out.reg
                      · refine ⟨TA, fn, tc, tl, few_same (s := 7) (by omega) (by rw [HFn.out]; exact hFn) Hok.out.reg Htr.out, by omega, fun W hW => ⟨cell_of_row _ _ 2 _ _ _ (hcell W hW), (HtlN.out.below Hb36.out).below hW⟩⟩)
                    have HbwP : Hid (Below w.heap.size w wP) := Lib.hid (Hba.out.trans ((Hba2.out.trans (HbP.out.mono (by omega))).mono (by omega)))
                    have hwP : w.heap.size ≤ wP.heap.size := HbwP.out.size
                    obtain ⟨md, hmd⟩ : ∃ md, modV st 16 = md := ⟨_, rfl⟩
                    rw [hmd] at HM16 Hb16
                    have hmd63 : md < 9223372036854775808 := by have := Hb16.out.2; omega
                    clear hmd Hr36 Hb36 HtlN HbN Htr HbP Hba2 HFr Hrs Hfl7 Hok Hsf Hmod Hmz Hmk Hms HFm HLn Hfl Hfn HFn Hb16
                    go_loopw [248] (fun iv wr => ∃ j : Nat, iv = .int .i64 (j : Int) ∧ j ≤ 3 ∧ Below wP.heap.size wP wr) (fun iv _ => 3 - (intOf iv).toNat)
                    case atStart => exact ⟨0, rfl, by omega, Below.refl _ _⟩
                    case round =>
                      obtain ⟨j, rfl, hj3, hbr⟩ := hrel
                      have Hbr := Lib.hid hbr
                      have hsr := hbr.size
                      clear hbr
                      by_cases hj : j < 3
                      · have hj' : (j : Int) < 3 := by omega
                        obtain ⟨M, mn, mc, ml, hfew, hm200, hM⟩ := Hthree.out j hj
                        have cQ := (hM wr Hbr.out).1
                        have HMr := Lib.hid (hM wr Hbr.out).2
                        have Hfew := Lib.hid hfew
                        clear hM hfew
                        obtain ⟨wo, rfl⟩ : ∃ wo : World, wo = wr := ⟨_, rfl⟩
                        go_upto_region 39 with (first
                          | (go_at_call 15; refine (HM16.out _).mono ?_; rintro e w' ⟨rfl, rfl⟩)
                          | fail)
                        have Hr2 : Hid ((wo.alloc (.cells #[.int .i64 st, .int .i64 md] 3)).heap[wo.heap.size]? = some (.cells #[.int .i64 st, .int .i64 md] 3 (0, 0))) := Lib.hid (heap_alloc_new wo _)
                        have Hb2 : Hid (Below wo.heap.size wo (wo.alloc (.cells #[.int .i64 st, .int .i64 md] 3))) := Lib.hid ((Below.refl _ _).alloc (Nat.le_refl _) _)
                        have hs2 : wo.heap.size < (wo.alloc (.cells #[.int .i64 st, .int .i64 md] 3)).heap.size := by simp
                        generalize wo.alloc (.cells #[.int .i64 st, .int .i64 md] 3) = wq at *
                        obtain ⟨P2, hP2⟩ : ∃ P2, wo.heap.size = P2 := ⟨_, rfl⟩
                        rw [hP2] at Hr2 hs2 ⊢
                        have HMq := Lib.hid (HMr.out.below Hb2.out)
                        have Hbq : Hid (Below wP.heap.size wP wq) := Lib.hid (Hbr.out.trans (Hb2.out.mono hsr))
                        have hsq := Hbq.out.size
                        clear HMr Hb2 cQ Hbr hsr
                        go_loopw [257] (fun iv wr => ∃ i : Nat, iv = .int .i64 (i : Int) ∧ i ≤ 2 ∧ Below wq.heap.size wq wr) (fun iv _ => 2 - (intOf iv).toNat)
                        case atStart => exact ⟨0, rfl, by omega, Below.refl _ _⟩
                        case round =>
                          obtain ⟨i, rfl, hi2, hbr⟩ := hrel
                          have Hbr := Lib.hid hbr
                          have hsr := hbr.size
                          clear hbr
                          by_cases hil : i < 2
                          · have hil' : (i : Int) < 2 := by omega
                            have hi0 : (0 : Int) ≤ (i : Int) := by omega
                            have hr2 := (Hbr.out.block _ hs2).trans Hr2.out
                            obtain ⟨z, cz, hz63⟩ : ∃ z, wr.cell? ⟨P2, i, none⟩ = some (.int .i64 z) ∧ z < 9223372036854775808 := by
                              rcases (show i = 0 ∨ i = 1 by omega) with rfl | rfl
                              · exact ⟨st, cell_of_row wr _ 0 _ _ _ hr2, by omega⟩
                              · exact ⟨md, cell_of_row wr _ 1 _ _ _ hr2, hmd63⟩
                            have HS := Lib.hid (HMq.out.below Hbr.out)
                            obtain ⟨⟨lo, er⟩, hof⟩ : ∃ p, commonFP (fcs ml) z = p := ⟨_, rfl⟩
                            have HC1 := Lib.hid (fun W (hW : SlF W M mn mc ml) => commonL_any M mn mc ml z W hW (by omega) Hfew.out.tot)
                            have HC2 := Lib.hid (fun W (hW : SlF W M mn mc ml) => commonR_any M mn mc ml z W hW (by omega) hz63 (fun _ k => Hfew.out.chain z k))
                            rw [hof] at HC1 HC2
                            clear hof hr2
                            go_upto_region 43 with (first
                              | (go_at_call 20
                                 refine (HC1.out _ HS.out).mono ?_
                                 rintro e w7 ⟨v7, rfl, hown7, hb7⟩
                                 simp only at hown7 ⊢
                                 obtain ⟨D7, k7, rfl, hS7⟩ := SlR.of_own hown7
                                 have HS7 := Lib.hid hS7
                                 have Hb7 := Lib.hid hb7
                                 have hs7 := hb7.size
                                 clear hown7 hb7 hS7)
                              | (go_at_call 21
                                 refine (HC2.out _ (HS.out.below (Hb7.out.trans (Below.mono (by repeat' (first | with_reducible exact Below.refl _ _ | with_reducible refine below_drewN ?_ _ | with_reducible refine Below.drew ?_ | with_reducible refine Below.alloc ?_ ?_ _ | with_reducible refine Below.setCell ?_ ?_ _ | with_reducible refine Below.trans ?_ (Below.mono (by with_reducible assumption) ?_) | (simp; done) | (simp; omega) | omega)) hs7)))).mono ?_
                                 rintro e w8 ⟨v8, rfl, hown8, hb8⟩
                                 simp only at hown8 ⊢
                                 obtain ⟨D8, k8, rfl, hS8⟩ := SlR.of_own hown8
                                 have HS8 := Lib.hid hS8
                                 have Hb8 := Lib.hid hb8
                                 have hs8 := hb8.size
                                 clear hown8 hb8 hS8)
                              | fail)
                            have cD7 : (w7.alloc (.cells #[.slice D7 lo.length k7] 34)).heap[w7.heap.size]? = some (.cells #[.slice D7 lo.length k7] 34 (0, 0)) := heap_alloc_new w7 _
                            have hs78 : w7.heap.size < w8.heap.size := by simp at hs8; omega
                            have c7' := cell_of_row w8 w7.heap.size 0 _ _ _ ((Hb8.out.block _ (by simp)).trans cD7)
                            obtain ⟨wd, hwd⟩ : ∃ wd : World, wd = w8.alloc (.cells #[.slice D8 lo.length k8] 34) := ⟨_, rfl⟩
                            rw [← hwd]
                            have d7 : wd.cell? ⟨w7.heap.size, 0, none⟩ = some (.slice D7 lo.length k7) := by rw [hwd, World.cell?_alloc_lt w8 _ _ (show w7.heap.size < w8.heap.size from hs78)]; exact c7'
                            have d8 : wd.cell? ⟨w8.heap.size, 0, none⟩ = some (.slice D8 lo.length k8) := by rw [hwd]; exact cell_of_row _ _ 0 _ _ _ (heap_alloc_new w8 _)
                            have Hbd : Hid (Below wq.heap.size wq wd) := Lib.hid (by
                              rw [hwd]
                              exact (((Hbr.out.trans (Hb7.out.mono hsr)).alloc (Nat.le_trans hsr hs7) _).trans (Hb8.out.mono (by simp; omega))).alloc (by omega) _)
                            have HS7d : Hid (SlR wd D7 lo.length k7 lo) := Lib.hid (by rw [hwd]; exact ((HS7.out.alloc _).below Hb8.out).alloc _)
                            have HS8d : Hid (SlR wd D8 lo.length k8 lo) := Lib.hid (by rw [hwd]; exact HS8.out.alloc _)
                            have HSm := Lib.hid (sameRef_any D7 D8 lo.length k7 lo.length k8 lo lo wd HS7d.out HS8d.out)
                            have hsd := Hbd.out.size
                            clear hwd cD7 c7' HS7 HS8 Hb7 Hb8 HS7d HS8d HC1 HC2 HS cz
                            go_wp2_with (first
                              | (go_at_call 22
                                 refine HSm.out.mono ?_
                                 rintro e w9 ⟨rfl, hb9⟩
                                 have Hb9 : Hid (Below wq.heap.size wq w9) := Lib.hid (Hbd.out.trans (hb9.mono hsd))
                                 clear hb9)
                              | fail)
                            go_roundw
                            case rel => exact ⟨i + 1, by go_num, by omega, Hb9.out⟩
                            case measure => simp [intOf]; omega
                          · obtain rfl : i = 2 := by omega
                            have HS := Lib.hid (HMq.out.below Hbr.out)
                            obtain ⟨⟨AR2, ae⟩, hae⟩ : ∃ p, areasFP (fcs ml) = p := ⟨_, rfl⟩
                            have HA1 := Lib.hid (fun W (hW : SlF W M mn mc ml) => areasF_any M mn mc ml W hW (by omega))
                            have HA2 := Lib.hid (fun W (hW : SlF W M mn mc ml) => areasR_any M mn mc ml W hW (by omega))
                            rw [hae] at HA1 HA2
                            clear hae
                            go_upto_region 51 with (first
                              | (go_at_call 23
                                 refine (HA1.out _ HS.out).mono ?_
                                 rintro e w7 ⟨v7, rfl, hown7, hb7⟩
                                 simp only at hown7 ⊢
                                 obtain ⟨D7, k7, rfl, hl7, hcap, hmax⟩ := own_slice hown7
                                 have h63 : AR2.length ≤ 9223372036854775807 := by unfold maxLen at hmax; omega
                                 clear hcap hmax
                                 have Hl7 := Lib.hid hl7
                                 have Hb7 := Lib.hid hb7
                                 have hs7 := hb7.size
                                 clear hown7 hb7 hl7)
                              | (go_at_call 24
                                 refine (HA2.out _ (HS.out.below Hb7.out)).mono ?_
                                 rintro e w8 ⟨v8, rfl, hown8, hb8⟩
                                 simp only at hown8 ⊢
                                 obtain ⟨D8, k8, rfl, hl8, _, _⟩ := own_slice hown8
                                 have Hl8 := Lib.hid hl8
                                 have Hl78 := Lib.hid (Hl7.out.below hb8)
                                 have Hb8 := Lib.hid hb8
                                 have hs8 := hb8.size
                                 clear hown8 hb8 hl8)
                              | fail)
                            have Hb8q : Hid (Below wq.heap.size wq w8) := Lib.hid (Hbr.out.trans ((Hb7.out.trans (Hb8.out.mono hs7)).mono hsr))
                            obtain ⟨an, han⟩ : ∃ an, AR2.length = an := ⟨_, rfl⟩
                            rw [han] at Hl8 Hl78 h63 ⊢
                            have Han := Lib.hid han
                            clear han HA1 HA2 HS Hl7 Hb7 Hb8
                            go_loopw [305] (fun iv wr => ∃ i : Nat, iv = .int .i64 (i : Int) ∧ i ≤ an ∧ Below w8.heap.size w8 wr) (fun iv _ => an - (intOf iv).toNat)
                            case atStart => exact ⟨0, rfl, by omega, Below.refl _ _⟩
                            case round =>
                              obtain ⟨i, rfl, hin, hbz⟩ := hrel
                              have Hbz := Lib.hid hbz
                              have hsz := hbz.size
                              clear hbz
                              by_cases hil2 : i < an
                              · have hia : i < AR2.length := by rw [Han.out]; exact hil2
                                have hil' : (i : Int) < (an : Int) := by omega
                                have hi0 : (0 : Int) ≤ (i : Int) := by omega
                                obtain ⟨hp0, hp1⟩ := prCells_at AR2 i hia
                                have hl78 := Hl78.out.below Hbz.out
                                have hl8 := Hl8.out.below Hbz.out
                                rcases hl78 with h0 | ⟨b7, o7, rfl, hb7, hc7⟩
                                · exact absurd h0 (by omega)
                                rcases hl8 with h0 | ⟨b8, o8, rfl, hb8, hc8⟩
                                · exact absurd h0 (by omega)
                                have c70 := hc7 _ _ hp0
                                have c71 := hc7 _ _ hp1
                                have c80 := hc8 _ _ hp0
                                have c81 := hc8 _ _ hp1
                                rw [← Nat.add_assoc] at c71 c81
                                obtain ⟨pa, hpa⟩ : ∃ pa, AR2[i].1 = pa := ⟨_, rfl⟩
                                obtain ⟨pb, hpb⟩ : ∃ pb, AR2[i].2 = pb := ⟨_, rfl⟩
                                rw [hpa] at c70 c80
                                rw [hpb] at c71 c81
                                have hnq := p_neq
                                have hgd := pGuard
                                clear hc7 hc8 hp0 hp1 hpa hpb
                                go_wp2
                                go_quiet (fail)
                                go_wp2
                                go_roundw
                                case rel => exact ⟨i + 1, by go_num, by omega, below_drewN Hbz.out _⟩
                                case measure => simp [intOf]; omega
                              · obtain rfl : i = an := by omega
                                have Hfin : Hid (Below wP.heap.size wP wr) := Lib.hid (Hbq.out.trans ((Hb8q.out.trans (Hbz.out.mono (by omega))).mono hsq))
                                go_wp2
                                go_roundw
                                case rel => exact ⟨j + 1, by go_num, by omega, Hfin.out⟩
                                case measure => simp [intOf]; omega
                      · obtain rfl : j = 3 := by omega
                        go_wp2_with (first
                          | (go_at_call 11
                             refine (awake07_any _).mono ?_
                             rintro e w7 ⟨rfl, hb7⟩
                             have Hb7 := Lib.hid hb7
                             clear hb7)
                          | fail)
                        go_ret
                        exact ⟨rfl, HbwP.out.trans ((Hbr.out.trans (Hb7.out.mono hsr)).mono hwP)⟩
                · have h0' : ¬ (0 : Int) < (fn : Int) := fun h => h0 (Int.natCast_pos.1 h)
                  have Hpk : Hid (∃ tl : FL, SlF wT TA fn tc tl ∧ (fcs tl).map Fc.rg = (fcs fl).map Fc.rg ∧ Below wM.heap.size wM wT) := Lib.hid ⟨fl, slf_own HownT.out Hfn.out (fun x hx => (Hrs.out.fits x hx).below HbT.out), rfl, HbT.out⟩
                  clear HownT HbT Hown hrd
                  go_upto_region 35 with fail
                  clear h0 h0'
                  obtain ⟨wN, rfl⟩ : ∃ wN : World, wN = wT := ⟨_, rfl⟩
                  as_aux_lemma =>
                    obtain ⟨tl, htl, htr, hbN⟩ := Hpk.out
                    have HtlN := Lib.hid htl
                    have HbN := Lib.hid hbN
                    have hsN := hbN.size
                    have Htr := Lib.hid (htr.trans (congrArg (List.map Fc.rg) Hfl7.out))
                    clear htl htr hbN Hpk
                    go_upto_region 36 with fail
                    have Hr36 : Hid ((wN.alloc (.cells #[.slice AF nf cf, .slice A7 fn c7, .slice TA fn tc] 28)).heap[wN.heap.size]? = some (.cells #[.slice AF nf cf, .slice A7 fn c7, .slice TA fn tc] 28 (0, 0))) := Lib.hid (heap_alloc_new wN _)
                    have Hb36 : Hid (Below wN.heap.size wN (wN.alloc (.cells #[.slice AF nf cf, .slice A7 fn c7, .slice TA fn tc] 28))) := Lib.hid ((Below.refl _ _).alloc (Nat.le_refl _) _)
                    have hs36 : wN.heap.size < (wN.alloc (.cells #[.slice AF nf cf, .slice A7 fn c7, .slice TA fn tc] 28)).heap.size := by simp
                    generalize wN.alloc (.cells #[.slice AF nf cf, .slice A7 fn c7, .slice TA fn tc] 28) = wP at *
                    obtain ⟨Q3, hQ3⟩ : ∃ Q3, wN.heap.size = Q3 := ⟨_, rfl⟩
                    rw [hQ3] at Hr36 hs36 ⊢
                    have HbP : Hid (Below wM.heap.size wM wP) := Lib.hid (HbN.out.trans (Hb36.out.mono hsN))
                    have Hthree : Hid (∀ j, j < 3 → ∃ (A : Option Addr) (n c : Nat) (l : FL), FewF (fcs l) ∧ n ≤ 200 ∧ ∀ W, Below wP.heap.size wP W → W.cell? ⟨Q3, j, none⟩ = some (.slice A n c) ∧ SlF W A n c l) := Lib.hid (by
                      intro j hj
                      have hcell : ∀ W, Below wP.heap.size wP W → W.heap[Q3]? = _ := fun W hW => (hW.block Q3 hs36).trans Hr36.out
                      have hsP := HbP.out.size
                      rcases (show j = 0 ∨ j = 1 ∨ j = 2 by omega) with rfl | rfl | rfl
                      · refine ⟨AF, nf, cf, LF, few_small ?_ ?_, by omega, fun W hW => ⟨cell_of_row _ _ 0 _ _ _ (hcell W hW), (HFr.out.below HbP.out).below hW⟩⟩
                        · rw [fcs_len, HFr.out.len]; omega
                        · have := rects_few Hsf.out
                          rw [fcs_len, HFr.out.len] at this
                          omega
                      · refine ⟨A7, fn, c7, fl, ?_, by omega, fun W hW => ⟨cell_of_row _ _ 1 _ _ _ (hcell W hW), (Hrs.out.below HbP.out).below hW⟩⟩
                        rw [Hfl7.out]
                        exact few_side (s := 7) (by omega) (by rw [HFn.out]; exact hFn) Hok.out.reg
                      · refine ⟨TA, fn, tc, tl, few_same (s := 7) (by omega) (by rw [HFn.out]; exact hFn) Hok.out.reg Htr.out, by omega, fun W hW => ⟨cell_of_row _ _ 2 _ _ _ (hcell W hW), (HtlN.out.below Hb36.out).below hW⟩⟩)
                    have HbwP : Hid (Below w.heap.size w wP) := Lib.hid (Hba.out.trans ((Hba2.out.trans (HbP.out.mono (by omega))).mono (by omega)))
                    have hwP : w.heap.size ≤ wP.heap.size := HbwP.out.size
                    obtain ⟨md, hmd⟩ : ∃ md, modV st 16 = md := ⟨_, rfl⟩
                    rw [hmd] at HM16 Hb16
                    have hmd63 : md < 9223372036854775808 := by have := Hb16.out.2; omega
                    clear hmd Hr36 Hb36 HtlN HbN Htr HbP Hba2 HFr Hrs Hfl7 Hok Hsf Hmod Hmz Hmk Hms HFm HLn Hfl Hfn HFn Hb16
                    go_loopw [248] (fun iv wr => ∃ j : Nat, iv = .int .i64 (j : Int) ∧ j ≤ 3 ∧ Below wP.heap.size wP wr) (fun iv _ => 3 - (intOf iv).toNat)
                    case atStart => exact ⟨0, rfl, by omega, Below.refl _ _⟩
                    case round =>
                      obtain ⟨j, rfl, hj3, hbr⟩ := hrel
                      have Hbr := Lib.hid hbr
                      have hsr := hbr.size
                      clear hbr
                      by_cases hj : j < 3
                      · have hj' : (j : Int) < 3 := by omega
                        obtain ⟨M, mn, mc, ml, hfew, hm200, hM⟩ := Hthree.out j hj
                        have cQ := (hM wr Hbr.out).1
                        have HMr := Lib.hid (hM wr Hbr.out).2
                        have Hfew := Lib.hid hfew
                        clear hM hfew
                        obtain ⟨wo, rfl⟩ : ∃ wo : World, wo = wr := ⟨_, rfl⟩
                        go_upto_region 39 with (first
                          | (go_at_call 15; refine (HM16.out _).mono ?_; rintro e w' ⟨rfl, rfl⟩)
                          | fail)
                        have Hr2 : Hid ((wo.alloc (.cells #[.int .i64 st, .int .i64 md] 3)).heap[wo.heap.size]? = some (.cells #[.int .i64 st, .int .i64 md] 3 (0, 0))) := Lib.hid (heap_alloc_new wo _)
                        have Hb2 : Hid (Below wo.heap.size wo (wo.alloc (.cells #[.int .i64 st, .int .i64 md] 3))) := Lib.hid ((Below.refl _ _).alloc (Nat.le_refl _) _)
                        have hs2 : wo.heap.size < (wo.alloc (.cells #[.int .i64 st, .int .i64 md] 3)).heap.size := by simp
                        generalize wo.alloc (.cells #[.int .i64 st, .int .i64 md] 3) = wq at *
                        obtain ⟨P2, hP2⟩ : ∃ P2, wo.heap.size = P2 := ⟨_, rfl⟩
                        rw [hP2] at Hr2 hs2 ⊢
                        have HMq := Lib.hid (HMr.out.below Hb2.out)
                        have Hbq : Hid (Below wP.heap.size wP wq) := Lib.hid (Hbr.out.trans (Hb2.out.mono hsr))
                        have hsq := Hbq.out.size
                        clear HMr Hb2 cQ Hbr hsr
                        go_loopw [257] (fun iv wr => ∃ i : Nat, iv = .int .i64 (i : Int) ∧ i ≤ 2 ∧ Below wq.heap.size wq wr) (fun iv _ => 2 - (intOf iv).toNat)
                        case atStart => exact ⟨0, rfl, by omega, Below.refl _ _⟩
                        case round =>
                          obtain ⟨i, rfl, hi2, hbr⟩ := hrel
                          have Hbr := Lib.hid hbr
                          have hsr := hbr.size
                          clear hbr
                          by_cases hil : i < 2
                          · have hil' : (i : Int) < 2 := by omega
                            have hi0 : (0 : Int) ≤ (i : Int) := by omega
                            have hr2 := (Hbr.out.block _ hs2).trans Hr2.out
                            obtain ⟨z, cz, hz63⟩ : ∃ z, wr.cell? ⟨P2, i, none⟩ = some (.int .i64 z) ∧ z < 9223372036854775808 := by
                              rcases (show i = 0 ∨ i = 1 by omega) with rfl | rfl
                              · exact ⟨st, cell_of_row wr _ 0 _ _ _ hr2, by omega⟩
                              · exact ⟨md, cell_of_row wr _ 1 _ _ _ hr2, hmd63⟩
                            have HS := Lib.hid (HMq.out.below Hbr.out)
                            obtain ⟨⟨lo, er⟩, hof⟩ : ∃ p, commonFP (fcs ml) z = p := ⟨_, rfl⟩
                            have HC1 := Lib.hid (fun W (hW : SlF W M mn mc ml) => commonL_any M mn mc ml z W hW (by omega) Hfew.out.tot)
                            have HC2 := Lib.hid (fun W (hW : SlF W M mn mc ml) => commonR_any M mn mc ml z W hW (by omega) hz63 (fun _ k => Hfew.out.chain z k))
                            rw [hof] at HC1 HC2
                            clear hof hr2
                            go_upto_region 43 with (first
                              | (go_at_call 20
                                 refine (HC1.out _ HS.out).mono ?_
                                 rintro e w7 ⟨v7, rfl, hown7, hb7⟩
                                 simp only at hown7 ⊢
                                 obtain ⟨D7, k7, rfl, hS7⟩ := SlR.of_own hown7
                                 have HS7 := Lib.hid hS7
                                 have Hb7 := Lib.hid hb7
                                 have hs7 := hb7.size
                                 clear hown7 hb7 hS7)
                              | (go_at_call 21
                                 refine (HC2.out _ (HS.out.below (Hb7.out.trans (Below.mono (by repeat' (first | with_reducible exact Below.refl _ _ | with_reducible refine below_drewN ?_ _ | with_reducible refine Below.drew ?_ | with_reducible refine Below.alloc ?_ ?_ _ | with_reducible refine Below.setCell ?_ ?_ _ | with_reducible refine Below.trans ?_ (Below.mono (by with_reducible assumption) ?_) | (simp; done) | (simp; omega) | omega)) hs7)))).mono ?_
                                 rintro e w8 ⟨v8, rfl, hown8, hb8⟩
                                 simp only at hown8 ⊢
                                 obtain ⟨D8, k8, rfl, hS8⟩ := SlR.of_own hown8
                                 have HS8 := Lib.hid hS8
                                 have Hb8 := Lib.hid hb8
                                 have hs8 := hb8.size
                                 clear hown8 hb8 hS8)
                              | fail)
                            have cD7 : (w7.alloc (.cells #[.slice D7 lo.length k7] 34)).heap[w7.heap.size]? = some (.cells #[.slice D7 lo.length k7] 34 (0, 0)) := heap_alloc_new w7 _
                            have hs78 : w7.heap.size < w8.heap.size := by simp at hs8; omega
                            have c7' := cell_of_row w8 w7.heap.size 0 _ _ _ ((Hb8.out.block _ (by simp)).trans cD7)
                            obtain ⟨wd, hwd⟩ : ∃ wd : World, wd = w8.alloc (.cells #[.slice D8 lo.length k8] 34) := ⟨_, rfl⟩
                            rw [← hwd]
                            have d7 : wd.cell? ⟨w7.heap.size, 0, none⟩ = some (.slice D7 lo.length k7) := by rw [hwd, World.cell?_alloc_lt w8 _ _ (show w7.heap.size < w8.heap.size from hs78)]; exact c7'
                            have d8 : wd.cell? ⟨w8.heap.size, 0, none⟩ = some (.slice D8 lo.length k8) := by rw [hwd]; exact cell_of_row _ _ 0 _ _ _ (heap_alloc_new w8 _)
                            have Hbd : Hid (Below wq.heap.size wq wd) := Lib.hid (by
                              rw [hwd]
                              exact (((Hbr.out.trans (Hb7.out.mono hsr)).alloc (Nat.le_trans hsr hs7) _).trans (Hb8.out.mono (by simp; omega))).alloc (by omega) _)
                            have HS7d : Hid (SlR wd D7 lo.length k7 lo) := Lib.hid (by rw [hwd]; exact ((HS7.out.alloc _).below Hb8.out).alloc _)
                            have HS8d : Hid (SlR wd D8 lo.length k8 lo) := Lib.hid (by rw [hwd]; exact HS8.out.alloc _)
                            have HSm := Lib.hid (sameRef_any D7 D8 lo.length k7 lo.length k8 lo lo wd HS7d.out HS8d.out)
                            have hsd := Hbd.out.size
                            clear hwd cD7 c7' HS7 HS8 Hb7 Hb8 HS7d HS8d HC1 HC2 HS cz
                            go_wp2_with (first
                              | (go_at_call 22
                                 refine HSm.out.mono ?_
                                 rintro e w9 ⟨rfl, hb9⟩
                                 have Hb9 : Hid (Below wq.heap.size wq w9) := Lib.hid (Hbd.out.trans (hb9.mono hsd))
                                 clear hb9)
                              | fail)
                            go_roundw
                            case rel => exact ⟨i + 1, by go_num, by omega, Hb9.out⟩
                            case measure => simp [intOf]; omega
                          · obtain rfl : i = 2 := by omega
                            have HS := Lib.hid (HMq.out.below Hbr.out)
                            obtain ⟨⟨AR2, ae⟩, hae⟩ : ∃ p, areasFP (fcs ml) = p := ⟨_, rfl⟩
                            have HA1 := Lib.hid (fun W (hW : SlF W M mn mc ml) => areasF_any M mn mc ml W hW (by omega))
                            have HA2 := Lib.hid (fun W (hW : SlF W M mn mc ml) => areasR_any M mn mc ml W hW (by omega))
                            rw [hae] at HA1 HA2
                            clear hae
                            go_upto_region 51 with (first
                              | (go_at_call 23
                                 refine (HA1.out _ HS.out).mono ?_
                                 rintro e w7 ⟨v7, rfl, hown7, hb7⟩
                                 simp only at hown7 ⊢
                                 obtain ⟨D7, k7, rfl, hl7, hcap, hmax⟩ := own_slice hown7
                                 have h63 : AR2.length ≤ 9223372036854775807 := by unfold maxLen at hmax; omega
                                 clear hcap hmax
                                 have Hl7 := Lib.hid hl7
                                 have Hb7 := Lib.hid hb7
                                 have hs7 := hb7.size
                                 clear hown7 hb7 hl7)
                              | (go_at_call 24
                                 refine (HA2.out _ (HS.out.below Hb7.out)).mono ?_
                                 rintro e w8 ⟨v8, rfl, hown8, hb8⟩
                                 simp only at hown8 ⊢
                                 obtain ⟨D8, k8, rfl, hl8, _, _⟩ := own_slice hown8
                                 have Hl8 := Lib.hid hl8
                                 have Hl78 := Lib.hid (Hl7.out.below hb8)
                                 have Hb8 := Lib.hid hb8
                                 have hs8 := hb8.size
                                 clear hown8 hb8 hl8)
                              | fail)
                            have Hb8q : Hid (Below wq.heap.size wq w8) := Lib.hid (Hbr.out.trans ((Hb7.out.trans (Hb8.out.mono hs7)).mono hsr))
                            obtain ⟨an, han⟩ : ∃ an, AR2.length = an := ⟨_, rfl⟩
                            rw [han] at Hl8 Hl78 h63 ⊢
                            have Han := Lib.hid han
                            clear han HA1 HA2 HS Hl7 Hb7 Hb8
                            go_loopw [305] (fun iv wr => ∃ i : Nat, iv = .int .i64 (i : Int) ∧ i ≤ an ∧ Below w8.heap.size w8 wr) (fun iv _ => an - (intOf iv).toNat)
                            case atStart => exact ⟨0, rfl, by omega, Below.refl _ _⟩
                            case round =>
                              obtain ⟨i, rfl, hin, hbz⟩ := hrel
                              have Hbz := Lib.hid hbz
                              have hsz := hbz.size
                              clear hbz
                              by_cases hil2 : i < an
                              · have hia : i < AR2.length := by rw [Han.out]; exact hil2
                                have hil' : (i : Int) < (an : Int) := by omega
                                have hi0 : (0 : Int) ≤ (i : Int) := by omega
                                obtain ⟨hp0, hp1⟩ := prCells_at AR2 i hia
                                have hl78 := Hl78.out.below Hbz.out
                                have hl8 := Hl8.out.below Hbz.out
                                rcases hl78 with h0 | ⟨b7, o7, rfl, hb7, hc7⟩
                                · exact absurd h0 (by omega)
                                rcases hl8 with h0 | ⟨b8, o8, rfl, hb8, hc8⟩
                                · exact absurd h0 (by omega)
                                have c70 := hc7 _ _ hp0
                                have c71 := hc7 _ _ hp1
                                have c80 := hc8 _ _ hp0
                                have c81 := hc8 _ _ hp1
                                rw [← Nat.add_assoc] at c71 c81
                                obtain ⟨pa, hpa⟩ : ∃ pa, AR2[i].1 = pa := ⟨_, rfl⟩
                                obtain ⟨pb, hpb⟩ : ∃ pb, AR2[i].2 = pb := ⟨_, rfl⟩
                                rw [hpa] at c70 c80
                                rw [hpb] at c71 c81
                                have hnq := p_neq
                                have hgd := pGuard
                                clear hc7 hc8 hp0 hp1 hpa hpb
                                go_wp2
                                go_quiet (fail)
                                go_wp2
                                go_roundw
                                case rel => exact ⟨i + 1, by go_num, by omega, below_drewN Hbz.out _⟩
                                case measure => simp [intOf]; omega
                              · obtain rfl : i = an := by omega
                                have Hfin : Hid (Below wP.heap.size wP wr) := Lib.hid (Hbq.out.trans ((Hb8q.out.trans (Hbz.out.mono (by omega))).mono hsq))
                                go_wp2
                                go_roundw
                                case rel => exact ⟨j + 1, by go_num, by omega, Hfin.out⟩
                                case measure => simp [intOf]; omega
                      · obtain rfl : j = 3 := by omega
                        go_wp2_with (first
                          | (go_at_call 11
                             refine (awake07_any _).mono ?_
                             rintro e w7 ⟨rfl, hb7⟩
                             have Hb7 := Lib.hid hb7
                             clear hb7)
                          | fail)
                        go_ret
                        exact ⟨rfl, HbwP.out.trans ((Hbr.out.trans (Hb7.out.mono hsr)).mono hwP)⟩
end Go.Proofs.YtabcadpfhachoaaGreat
