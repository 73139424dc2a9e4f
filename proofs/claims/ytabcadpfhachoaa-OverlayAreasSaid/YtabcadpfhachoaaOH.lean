/- OverlayAreas: the walk. -/
import Derived.Test.YtabcadpfhachoaaOJ
namespace Go.Proofs.Ytabcadpfhachoaa
open Go.RowKit
set_option linter.unusedVariables false
set_option linter.unusedSimpArgs false

set_option maxHeartbeats 16000000 in
set_option maxRecDepth 100000 in
theorem areas07 (A : Option Addr) (n c : Nat) (zs : List Int) (w : World) (hn : zs.length = n) (hc : n ≤ c) (hm : c ≤ maxLen) (hw : ∀ z ∈ zs, (Lit.int .i64 z).wf = true) (hA : Lies w A n (zs.map (.int .i64))) :
    Calls Try.prog 6 #[.slice A n c] w fun e w' => e = .returned (.bool true) ∧ Below w.heap.size w w' := by
  have HN := Lib.hid (new_any A n c zs w hn hc hm hw hA)
  clear hn hw hA hc hm
  go_enter Try.func6, Try.ntmps6
  go_wp2_with fail
  refine HN.out.mono ?_
  rintro e w0 ⟨g, rfl, hg, ht, hb0⟩
  generalize zs.take 400 = r at *
  have hlt := ht.lt
  go_wp2_with fail
  refine (range_any g r 1 4 _ ht (by omega) (by omega) (by omega)).mono ?_
  rintro e w1 ⟨rfl, ht1, hg1⟩
  have hnb := nx_bd r 4 (by omega)
  rw [show ((4 : Int) - 1 + 1) = 4 from by decide]
  obtain ⟨k0, hk0⟩ := Int.eq_ofNat_of_zero_le hnb.1
  rw [hk0] at hnb ⊢
  obtain ⟨N, hN⟩ : ∃ N : Nat, N = 1 + k0 := ⟨_, rfl⟩
  rw [show ((1 : Int) + (k0 : Int)) = ((N : Nat) : Int) from by omega]
  have hN1 : 1 ≤ N := by omega
  have hN4 : N ≤ 4 := by omega
  have Hb1 : Hid (Below w.heap.size w w1) := Lib.hid (below_only hb0 hg1 hg hb0.size)
  have hlt1 := ht1.lt
  clear hk0 hnb hg1 ht hN hb0 hlt
  go_wp2_with fail
  refine (regions_any g N r.tail 8 2 _ ht1 (by omega) (by omega) (by omega)).mono ?_
  rintro e w2 ⟨v2, L, rfl, hR2, hL2, ht2, hg2⟩
  have Hms : Hid (∀ a ∈ rgs L, Reg 8 6 a) := Lib.hid (by rw [hL2]; exact mkRegs_ok N r.tail 8 (by omega) (by omega))
  have hLn : L.length = N := by have := congrArg List.length hL2; rw [rgs_len, mkRegs_len] at this; exact this
  have Hb2 : Hid (Below w.heap.size w w2) := Lib.hid (below_only Hb1.out hg2 hg Hb1.out.size)
  have hlow := Hb1.out.size
  generalize tapeK r.tail 8 2 N = r2 at *
  obtain ⟨A2, c2, rfl, _, _, _⟩ := own_slice hR2.o
  have HR2 := Lib.hid hR2
  have HLn := Lib.hid hLn
  have Ht2 := Lib.hid ht2
  have hlt2 := ht2.lt
  rw [hLn] at HR2 ⊢
  have HG2 : Hid (SlG w2 A2 N c2 L) := Lib.hid (by have := HR2.out; rw [← hLn] at this; have := this.slg; rw [hLn] at this; exact this)
  obtain ⟨F, hF, hok⟩ := (regs_faces (s := 8) (by omega) (by rw [rgs_len, hLn]; omega) Hms.out).2
  have Hfl := Lib.hid (regs_faces (s := 8) (m := rgs L) (by omega) (by rw [rgs_len, hLn]; omega) Hms.out).1
  have HF := Lib.hid hF
  have Hok := Lib.hid hok
  have hFn : F.length ≤ 15 := by
    have h1 := faces_len hok
    rw [rgs_len, hLn] at h1
    have h2 : 2 ^ N ≤ 2 ^ 4 := Nat.pow_le_pow_right (by omega) (by omega)
    omega
  clear hL2 hLn hR2 ht2 hg2 Hb1 ht1 hF hok HN hlow
  have Hfc := Lib.hid (faces_any A2 N c2 L w2 HG2.out Hfl.out)
  rw [HF.out] at Hfc
  go_wp2_with fail
  refine Hfc.out.mono ?_
  intro e w3 h3
  obtain ⟨fl, A3, c3, rfl, hF3, hfl, hb3⟩ := h3.parts
  have hfn : fl.length = F.length := by have := congrArg List.length hfl; simpa [fcs] using this
  have Hfl3 := Lib.hid hfl
  have HF3 : Hid (SlF w3 A3 fl.length c3 fl) := Lib.hid hF3.slf
  obtain ⟨nf, hnf⟩ : ∃ nf, nf = fl.length := ⟨_, rfl⟩
  rw [← hnf] at HF3 ⊢
  have hfn15 : nf ≤ 15 := by omega
  have HG3 := Lib.hid (HG2.out.below hb3)
  have Hb3 : Hid (Below w.heap.size w w3) := Lib.hid (Hb2.out.trans (hb3.mono Hb2.out.size))
  have hs3 := Hb3.out.size
  have hs23 := hb3.size
  have Hlow23 := Lib.hid hb3
  have Hfn : Hid (nf = F.length) := Lib.hid (hnf.trans hfn)
  have hss : ∀ f ∈ F, Reg 8 64 f.rg := fun f hf => Hok.out.reg f hf
  have htot := rects_total hss
  have Htot : Hid ((F.flatMap Fc.rg).length ≤ 50000) := Lib.hid (by omega)
  have Hchk : Hid (checkFP F = 0) := Lib.hid (faces_check (s := 8) (by omega) (by rw [rgs_len, HLn.out]; omega) Hok.out)
  have HC : Hid (∀ (t : Int) (W : World), Below w3.heap.size w3 W → Calls Try.prog 17 #[.slice A3 nf c3, .int .i64 t] W (RegPost W (commonFP F t))) := Lib.hid (fun t W hW => by
    have := commonF_any A3 nf c3 fl t W (HF3.out.below hW) (by omega) (by rw [Hfl3.out]; exact Htot.out) (fun _ => by rw [Hfl3.out]; have := cuts_ins (s := 8) (pick_ins Hok.out t); show (cutsP (pickP F t)).length ≤ 100; omega)
    rw [Hfl3.out] at this
    exact this)
  have Hbit : Hid (∀ (i : Nat) (h : i < L.length), commonFP F ((2 ^ i : Nat) : Int) = (L[i].1, 0)) := Lib.hid (fun i h => by
    have hi : i < (rgs L).length := by rw [rgs_len]; exact h
    have e : (rgs L)[i] = L[i].1 := by simp [rgs]
    rw [common_bit (s := 8) (by omega) (by rw [rgs_len, HLn.out]; omega) Hok.out i hi (Hms.out _ (List.getElem_mem hi)), e])
  have Hsum : Hid (∀ (i : Nat) (h : i < L.length), sumA i F = areaP L[i].1) := Lib.hid (fun i h => by
    have hi : i < (rgs L).length := by rw [rgs_len]; exact h
    have e : (rgs L)[i] = L[i].1 := by simp [rgs]
    have := bits_area (s := 8) (by omega) Hok.out i hi (k := 6) (by omega) (Hms.out _ (List.getElem_mem hi))
    rw [e] at this
    exact this)
  have hall0 := common_lim (s := 8) (by omega) (by rw [rgs_len, HLn.out]; omega) Hok.out 0
  have hun0 := union_all (s := 8) (by omega) Hok.out Hms.out (by have := Hfl.out; omega) (by rw [rgs_len, HLn.out]; omega)
  obtain ⟨all, hall⟩ : ∃ all, canonP (pickP F 0) = all := ⟨_, rfl⟩
  rw [hall] at hall0 hun0
  have Hun := Lib.hid hun0
  have HC0 := Lib.hid (HC.out 0 w3 (Below.refl _ _))
  have Hbds : Hid (∀ f ∈ F, 0 ≤ areaP f.rg ∧ areaP f.rg ≤ 64) := Lib.hid (fun f hf => by
    have := area_bd (s := 8) (hss f hf) (by omega) (by omega)
    omega)
  have Har := Lib.hid (areasF_any A3 nf c3 fl w3 HF3.out (by omega))
  rw [Hfl3.out] at Har
  have hafp : areasFP F = (F.map fun f => (f.set, areaP f.rg), 0) := by unfold areasFP; rw [if_pos Hchk.out]
  rw [hafp] at Har
  have Hall0 := Lib.hid hall0
  clear hall0 hun0 hall hafp htot hss h3 hF3 hfl hb3 hfn hnf Hfc HC0
  go_wp2_with fail
  refine Har.out.mono ?_
  rintro e w4 ⟨v4, rfl, hown4, hb4⟩
  obtain ⟨AR, hAR⟩ : ∃ AR, AR = F.map fun f => (f.set, areaP f.rg) := ⟨_, rfl⟩
  rw [← hAR] at hown4
  have hARn : AR.length = nf := by rw [hAR, List.length_map, Hfn.out]
  simp only [hARn] at hown4
  have HAR := Lib.hid hAR
  have HARn := Lib.hid hARn
  obtain ⟨A4, c4, rfl, _, _, _⟩ := own_slice hown4
  have Hown4 := Lib.hid hown4
  have Hb4 := Lib.hid hb4
  have hs4 := hb4.size
  clear hAR hARn hown4 hb4 Har
  go_wp2_with fail
  have hc0 := HC.out 0 w4 Hb4.out
  rw [Hall0.out] at hc0
  refine hc0.mono ?_
  rintro e w5 ⟨v5, rfl, hown5, hb5⟩
  obtain ⟨D5, c5, rfl, hS5⟩ := SlR.of_own hown5
  have hs5 := hb5.size
  have HS5 := Lib.hid hS5
  have Hb45 := Lib.hid hb5
  have Hb5 := Lib.hid (Hb4.out.trans (hb5.mono hs4))
  clear hown5 hb5 hc0 hS5
  go_upto_region 10 with fail
  obtain ⟨w6, hw6⟩ : ∃ w6 : World, w6 = w5.alloc (.cells #[.slice D5 all.length c5] 34) := ⟨_, rfl⟩
  try simp only [List.length_nil]
  rw [← hw6]
  obtain ⟨P9, hP9⟩ : ∃ P, w5.heap.size = P := ⟨_, rfl⟩
  have Hx9 : Hid (w6.heap[P9]? = some (.cells #[.slice D5 all.length c5] 34 (0, 0))) := Lib.hid (by rw [hw6, ← hP9]; exact heap_alloc_new w5 _)
  have Hb6 : Hid (Below w3.heap.size w3 w6) := Lib.hid (by rw [hw6]; exact Hb5.out.alloc (by omega) _)
  have Hown6 : Hid (w6.ownsRow w3.heap.size 48 2 (.slice A4 nf c4) nf (prCells AR)) := Lib.hid (by rw [hw6]; exact (ownsRow_below Hown4.out Hb45.out).alloc _)
  have HS6 : Hid (SlR w6 D5 all.length c5 all) := Lib.hid (by rw [hw6]; exact HS5.out.alloc _)
  have hP9l : P9 < w6.heap.size := by rw [hw6, ← hP9]; simp
  rw [hP9]
  have hs6 := Hb6.out.size
  clear hw6 hP9 HS5 Hb5
  obtain ⟨i0, hi, hz0, hz1, hz2⟩ := info_parts Try.infoRect
  have hs33 := hs3
  clear Hown4 hs4 hs5 hs3 hs23 Hb4 Hb45
  go_loopw [11, 61] (fun uv iv wr => ∃ i : Nat, iv = .int .i64 (i : Int) ∧ i ≤ N ∧ wr.ownsRow w6.heap.size 61 4 uv ((rgs L).take i).flatten.length (rCells ((rgs L).take i).flatten) ∧ Below w6.heap.size w6 wr) (fun _ iv _ => N - (intOf iv).toNat)
  case atStart => exact ⟨0, rfl, by omega, World.ownsRow_nil _ _ _ _, Below.refl _ _⟩
  case round =>
    obtain ⟨i, rfl, hiN, hown, hbi⟩ := hrel
    obtain ⟨UA, uc, hUv, hSU⟩ := SlR.of_own hown
    subst hUv
    have HU := Lib.hid hown
    have HSU := Lib.hid hSU
    have Hbi := Lib.hid hbi
    have hsi := hbi.size
    have Hb3i : Hid (Below w3.heap.size w3 wr) := Lib.hid (Hb6.out.trans (hbi.mono hs6))
    have hs3i := Hb3i.out.size
    clear hown hSU hbi
    obtain ⟨wo, rfl⟩ : ∃ wo : World, wo = wr := ⟨_, rfl⟩
    have hP9o : P9 < wo.heap.size := by omega
    have Hx9o : Hid (wo.heap[P9]? = some (.cells #[.slice D5 all.length c5] 34 (0, 0))) := Lib.hid ((Hbi.out.block _ hP9l).trans Hx9.out)
    by_cases hil : i < N
    · have hil' : (i : Int) < (N : Int) := by omega
      have hiL : i < L.length := by rw [HLn.out]; exact hil
      obtain ⟨b1, off, rfl, hb1, c0, hsx⟩ := (HG3.out.below Hb3i.out).at i hiL
      have Hnx : Hid (((rgs L).take (i + 1)).flatten = ((rgs L).take i).flatten ++ L[i].1) := Lib.hid (by
        rw [List.take_succ_eq_append_getElem (by rw [rgs_len]; exact hiL), List.flatten_append]
        simp [rgs])
      have Hle : Hid (((rgs L).take i).flatten.length ≤ 45 ∧ L[i].1.length ≤ 6) := Lib.hid ⟨by
        have h1 : ((rgs L).take i).flatten.length ≤ (rgs L).flatten.length := by
          conv => rhs; rw [← List.take_append_drop i (rgs L)]
          rw [List.flatten_append, List.length_append]
          omega
        have := Hfl.out
        omega, (Hms.out _ (List.mem_map.2 ⟨_, List.getElem_mem hiL, rfl⟩)).len⟩
      have HCi : Hid (∀ W, Below w3.heap.size w3 W → Calls Try.prog 17 #[.slice A3 nf c3, .int .i64 (wrap64 ((2 : Int) ^ i))] W (RegPost W (L[i].1, 0))) := Lib.hid (fun W hW => by
        have := HC.out ((2 ^ i : Nat) : Int) W hW
        rw [Hbit.out i hiL] at this
        rw [shl_one i (by omega)]
        exact this)
      have Hsumi := Lib.hid (Hsum.out i hiL)
      have Hsx := Lib.hid hsx
      have hs3x := HG3.out.fits _ (List.getElem_mem hiL)
      obtain ⟨U, hU⟩ : ∃ U, ((rgs L).take i).flatten = U := ⟨_, rfl⟩
      obtain ⟨U', hU'⟩ : ∃ U, ((rgs L).take (i + 1)).flatten = U := ⟨_, rfl⟩
      obtain ⟨x, hx⟩ : ∃ x, L[i].1 = x := ⟨_, rfl⟩
      obtain ⟨D, hD⟩ : ∃ D, L[i].2.a = D := ⟨_, rfl⟩
      obtain ⟨d, hd⟩ : ∃ d, L[i].2.c = d := ⟨_, rfl⟩
      rw [hU] at HU HSU Hnx Hle ⊢
      rw [hU', hx] at Hnx
      rw [hx] at HCi Hsumi Hle
      rw [hx, hD, hd] at Hsx c0 hs3x
      have HU' := Lib.hid hU'
      obtain ⟨un, hun⟩ : ∃ un, U.length = un := ⟨_, rfl⟩
      obtain ⟨q, hq⟩ : ∃ q, x.length = q := ⟨_, rfl⟩
      rw [hun] at HU HSU Hle ⊢
      rw [hq] at Hsx c0 Hle hs3x
      have Hs3x := Lib.hid hs3x
      have HUb : Hid (∀ k, (Value.slice UA un uc).ownBlock = some k → w6.heap.size ≤ k ∧ k < wo.heap.size) := Lib.hid (fun k hk => ⟨own_base HU.out k hk, own_lt HU.out k hk⟩)
      have Hun' := Lib.hid hun
      have Hq := Lib.hid hq
      have hle1 := Hle.out.1
      have hle2 := Hle.out.2
      have hi0 : 0 ≤ (i : Int) := by omega
      have ei : IntKind.i64.wrap (i : Int) = (i : Int) := IntWalk.i64_in _ (by omega)
      clear hU hU' hx hD hd hsx hun hq hs3x
      go_upto_region 15 with (first
        | (go_at_call 17
           refine (HCi.out _ (Hb3i.out.alloc hs3i _)).mono ?_
           rintro e w7 ⟨v7, rfl, hown7, hb7⟩
           obtain ⟨D7, c7, rfl, hS7⟩ := SlR.of_own hown7
           have HO7 := Lib.hid hown7
           have Hx13 : Hid (w7.heap[wo.heap.size]? = some (.cells #[.slice D q d] 34 (0, 0))) := Lib.hid ((hb7.block _ (by simp)).trans (heap_alloc_new wo _))
           have Hb7 : Hid (Below wo.heap.size wo w7) := Lib.hid (show Below wo.heap.size wo w7 from (by have hbq := hb7; exact (by repeat' (first | with_reducible exact Below.refl _ _ | with_reducible assumption | with_reducible refine below_drewN ?_ _ | with_reducible refine Below.drew ?_ | with_reducible refine Below.alloc ?_ ?_ _ | with_reducible refine Below.setCell ?_ ?_ _ | with_reducible refine Below.trans ?_ (Below.mono (by with_reducible assumption) ?_) | with_reducible refine below_only ?_ (by with_reducible assumption) ?_ ?_ | (simp; done) | (simp; omega) | omega))))
           have hs7 : wo.heap.size < w7.heap.size := by have := hb7.size; simp at this; omega
           clear hown7 hb7 hS7)
        | fail)
      try simp only [Hq.out]
      obtain ⟨w8, hw8⟩ : ∃ w8 : World, w8 = w7.alloc (.cells #[.slice D7 q c7] 34) := ⟨_, rfl⟩
      have hqq := Hq.out
      simp only [hqq] at HO7 ⊢
      rw [← hw8]
      clear hqq
      obtain ⟨P13, hP13⟩ : ∃ P, wo.heap.size = P := ⟨_, rfl⟩
      obtain ⟨P14, hP14⟩ : ∃ P, w7.heap.size = P := ⟨_, rfl⟩
      have Hy13 : Hid (w8.heap[P13]? = some (.cells #[.slice D q d] 34 (0, 0))) := Lib.hid (by rw [hw8, ← hP13, Below.heap_alloc _ _ _ (by omega)]; exact Hx13.out)
      have Hy14 : Hid (w8.heap[P14]? = some (.cells #[.slice D7 q c7] 34 (0, 0))) := Lib.hid (by rw [hw8, ← hP14]; exact heap_alloc_new w7 _)
      have HbO8 : Hid (Below wo.heap.size wo w8) := Lib.hid (by rw [hw8]; exact Hb7.out.alloc (by omega) _)
      have HO8 : Hid (w8.ownsRow (P13 + 1) 61 4 (.slice D7 q c7) q (rCells x)) := Lib.hid (by rw [hw8]; exact own_rebase (HO7.out.alloc _) (by simp; omega))
      have hl13 : P13 < w8.heap.size := by rw [hw8, ← hP13]; simp; omega
      have hl14 : P14 < w8.heap.size := by rw [hw8, ← hP14]; simp
      have h1314 : P13 < P14 := by rw [← hP13, ← hP14]; exact hs7
      rw [hP13, hP14]
      have Hb38 : Hid (Below w3.heap.size w3 w8) := Lib.hid (Hb3i.out.trans (HbO8.out.mono hs3i))
      have Hb68 : Hid (Below w6.heap.size w6 w8) := Lib.hid (Hbi.out.trans (HbO8.out.mono hsi))
      have Hx8 : Hid (SlR w8 D q d x) := Lib.hid (Hsx.out.below HbO8.out)
      have HU8 := Lib.hid (ownsRow_below HU.out HbO8.out)
      have hs38 := Hb38.out.size
      have hs68 := Hb68.out.size
      rw [hP13] at HUb
      clear hw8 hP13 hP14 Hx13 Hb7 hs7 HO7 HCi HbO8 Hsx HU
      go_loopw [16, 75] (fun sv jv wr => ∃ j : Nat, jv = .int .i64 (j : Int) ∧ j ≤ nf ∧ sv = .int .i64 (sumA i (F.take j)) ∧ Below w8.heap.size w8 wr) (fun _ jv _ => nf - (intOf jv).toNat)
      case atStart => exact ⟨0, rfl, by omega, rfl, Below.refl _ _⟩
      case round =>
        obtain ⟨j, rfl, hjn, rfl, hbj⟩ := hrel
        have Hbj := Lib.hid hbj
        have hsj := hbj.size
        clear hbj
        by_cases hjl : j < nf
        · have hjl' : (j : Int) < (nf : Int) := by omega
          have hjF : j < F.length := by have := Hfn.out; omega
          have hjA : j < AR.length := by have := HARn.out; omega
          obtain ⟨gA, cA, eA, _, hgA, _, _, hcA, _⟩ := own_at (ownsRow_below (ownsRow_below Hown6.out Hb68.out) Hbj.out) (by omega)
          injection eA with e1 _ e3
          subst e1 e3
          obtain ⟨q0, q1⟩ := prCells_at AR j hjA
          have hAj : AR[j] = (F[j].set, areaP F[j].rg) := by
            have := HAR.out
            subst this
            simp
          rw [hAj] at q0 q1
          have d0 := hcA _ _ q0
          have d1 := hcA _ _ q1
          have hst := sumA_snoc i (F.take j) F[j]
          rw [← List.take_succ_eq_append_getElem hjF] at hst
          have hb0 := sumA_bd i 64 (F.take j) (fun f hf => Hbds.out f (List.mem_of_mem_take hf))
          have hbk := Hbds.out F[j] (List.getElem_mem hjF)
          have hpos := Hok.out.pos F[j] (List.getElem_mem hjF)
          have hln : (F.take j).length ≤ 15 := by rw [List.length_take]; omega
          have hbf : bitF i F[j] = F[j].set.toNat.testBit i := rfl
          obtain ⟨z, hz⟩ := Int.eq_ofNat_of_zero_le (show 0 ≤ F[j].set by omega)
          have hz16 : (z : Int) < 16 := by
            have h1 : (2 : Int) ^ (rgs L).length ≤ 16 := by
              have h : 2 ^ (rgs L).length ≤ 2 ^ 4 := Nat.pow_le_pow_right (by omega) (by rw [rgs_len, HLn.out]; exact hN4)
              have := Int.ofNat_le.2 h
              simpa using this
            have h2 := hpos.2
            omega
          rw [hz] at d0 hbf
          rw [Int.toNat_natCast] at hbf
          rw [hbf] at hst
          obtain ⟨ar, har⟩ : ∃ ar, areaP F[j].rg = ar := ⟨_, rfl⟩
          obtain ⟨sm, hsm⟩ : ∃ sm, sumA i (F.take j) = sm := ⟨_, rfl⟩
          obtain ⟨sm', hsm'⟩ : ∃ sm, sumA i (F.take (j + 1)) = sm := ⟨_, rfl⟩
          rw [har] at d1 hst hbk
          rw [hsm] at hst hb0 ⊢
          rw [hsm'] at hst
          have Hsm' := Lib.hid hsm'
          have Hst := Lib.hid hst
          have hA := bit_at z i (by omega)
          have hb1' : sm ≤ 960 := by have := hb0.2; omega
          have hb0' := hb0.1
          have ew : wrap64 (sm + ar) = sm + ar := IntWalk.wrap64_in _ (by omega)
          clear q0 q1 hAj hcA hst hb0 hpos hln hbf hz har hsm hsm'
          cases hbit : z.testBit i
          · rw [hbit] at hA Hst
            have hA0 : bits BinOp.and IntKind.i64 ((z : Int) / 2 ^ i) 1 = 0 := hA
            clear hA hbit
            go_wp2
            go_roundw
            case rel => exact ⟨j + 1, by go_num, by omega, by rw [Hsm'.out, Hst.out]; simp, Hbj.out.alloc hsj _⟩
            case measure => simp [intOf]; omega
          · rw [hbit] at hA Hst
            have hA1 : bits BinOp.and IntKind.i64 ((z : Int) / 2 ^ i) 1 = 1 := hA
            clear hA hbit
            go_wp2
            go_roundw
            case rel => exact ⟨j + 1, by go_num, by omega, by rw [Hsm'.out, Hst.out]; simp, Hbj.out.alloc hsj _⟩
            case measure => simp [intOf]; omega
        · obtain rfl : j = nf := by omega
          have hsm : sumA i (F.take j) = areaP x := by rw [List.take_of_length_le (by have := Hfn.out; omega)]; exact Hsumi.out
          rw [hsm]
          clear hsm
          obtain ⟨ar, har⟩ : ∃ ar, areaP x = ar := ⟨_, rfl⟩
          rw [har]
          have HarE := Lib.hid har
          have Hx := Lib.hid (Hx8.out.below Hbj.out)
          have hrd : Hid (Reads wr wr.heap.size 4 D q (rCells x)) := Lib.hid (Hx.out.lies.reads (by rw [rCells_len, Hq.out]))
          have HUr := Lib.hid (ownsRow_below HU8.out Hbj.out)
          have HO7 := Lib.hid (ownsRow_below HO8.out Hbj.out)
          have hb6r : Below w6.heap.size w6 wr := Hb68.out.trans (Hbj.out.mono hs68)
          have hb3r : Below w3.heap.size w3 wr := Hb38.out.trans (Hbj.out.mono hs38)
          have Hb6r := Lib.hid hb6r
          have Hb3r := Lib.hid hb3r
          have hszr := hb6r.size
          clear hb6r hb3r
          have hr13 := (Hbj.out.block _ hl13).trans Hy13.out
          have z13 := cell_of_row _ _ 0 _ _ _ hr13
          clear har hr13
          go_wp2_with (first
            | (at_builtin
               refine wpList_append_any _ rfl (.tmp 90) (.tmp 92) _ rfl w6.heap.size 61 i0 _ 4 32 Try.underlying32 hi hz0 hz1 hz2 rfl (by omega) _ un (rCells U) rfl HUr.out wr.heap.size _ q d (rCells x) rfl hrd.out (rCells_one x) (by simp only [maxLen]; omega) (by omega) (by omega) ?_
               intro v9 w9 hown9 hg9 hat9
               have hob := own_base HUr.out
               obtain ⟨VB, vd, rfl, _, _, _⟩ := own_slice hown9
               have Hown9 := Lib.hid hown9
               have hr13 := (hg9.block P13 (by omega) (fun e => by have := HUb.out _ e.symm; omega)).trans ((Hbj.out.block _ hl13).trans Hy13.out)
               have hr14 := (hg9.block P14 (by omega) (fun e => by have := HUb.out _ e.symm; omega)).trans ((Hbj.out.block _ hl14).trans Hy14.out)
               have Hb69 : Hid (Below w6.heap.size w6 w9) := Lib.hid (Hb6r.out.grown hg9 hszr (fun b e => hob b e))
               have Hb39 : Hid (Below w3.heap.size w3 w9) := Lib.hid (Hb3r.out.grown hg9 (by omega) (fun b e => by have := hob b e; omega))
               have HX9 : Hid (SlR w9 D q d x) := Lib.hid (Hs3x.out.below Hb39.out)
               have HC9 : Hid (SlR w9 D7 q c7 x) := Lib.hid (by
                 have := own_grown HO7.out hg9 (fun b hb e => by have h1 := own_base HO7.out b hb; have h2 := HUb.out b e; omega)
                 rw [← Hq.out] at this ⊢
                 exact own_slr this)
               have hs9 := hg9.size
               have Hr13 := Lib.hid hr13
               have Hr14 := Lib.hid hr14
               have y13 := cell_of_row _ _ 0 _ _ _ hr13
               have y14 := cell_of_row _ _ 0 _ _ _ hr14
               clear hown9 hg9 hat9 hob hr13 hr14)
            | (go_at_call 13
               have hsm := sameRef_any D7 D q c7 q d x x w9 HC9.out HX9.out
               rw [decide_eq_true rfl] at hsm
               refine hsm.mono ?_
               rintro e w10 ⟨rfl, hb10⟩
               have x13 := cell_of_row _ _ 0 _ _ _ ((hb10.block P13 (by omega)).trans Hr13.out)
               have HX10 := Lib.hid (HX9.out.below hb10)
               have Hb10 := Lib.hid hb10
               clear hsm hb10)
            | (go_at_call 18
               have hguard := Hb10.out
               have har := areaR_any D q d x w10 HX10.out
               rw [HarE.out] at har
               refine har.mono ?_
               rintro e w11 ⟨rfl, hb11⟩
               have Hb11 := Lib.hid hb11
               clear hguard har hb11)
            | fail)
          have hs69 := Hb69.out.size
          have hs10 := Hb10.out.size
          go_roundw
          case rel => exact ⟨i + 1, by go_num, by omega, by
            rw [HU'.out, Hnx.out, List.length_append, Hun'.out, Hq.out, show rCells (U ++ x) = rCells U ++ rCells x by simp [rCells]]
            exact ownsRow_below (ownsRow_below Hown9.out Hb10.out) Hb11.out, (Hb69.out.trans (Hb10.out.mono hs69)).trans (Hb11.out.mono (by omega))⟩
          case measure => simp [intOf]; omega
    · obtain rfl : i = N := by omega
      have htk : (rgs L).take i = rgs L := List.take_of_length_le (by rw [rgs_len, HLn.out]; exact Nat.le_refl _)
      rw [htk] at HU HSU ⊢
      clear htk
      have Hof := Lib.hid (ofR_any UA _ uc _ wo HSU.out)
      rw [Hun.out] at Hof
      obtain ⟨un, hun⟩ : ∃ un, (rgs L).flatten.length = un := ⟨_, rfl⟩
      rw [hun] at Hof ⊢
      have x9 := cell_of_row _ _ 0 _ _ _ Hx9o.out
      have HA9 := Lib.hid (HS6.out.below Hbi.out)
      clear hun
      go_wp2_with (first
        | (go_at_call 19
           refine Hof.out.mono ?_
           rintro e w7 ⟨v7, rfl, hown7, hb7⟩
           obtain ⟨D7, c7, rfl, hS7⟩ := SlR.of_own hown7
           have HS7 := Lib.hid hS7
           have y9 := cell_of_row _ _ 0 _ _ _ ((hb7.block _ hP9o).trans Hx9o.out)
           have HA7 := Lib.hid (HA9.out.below hb7)
           have Hb7 := Lib.hid hb7
           have hs7 := hb7.size
           have hP97 : P9 < w7.heap.size := by omega
           clear hown7 hb7 hS7)
        | (go_at_call 13
           have hsm := sameRef_any D7 D5 all.length c7 all.length c5 all all _ (HS7.out.alloc (.cells #[.slice D7 all.length c7] 34)) (HA7.out.alloc (.cells #[.slice D7 all.length c7] 34))
           rw [decide_eq_true rfl] at hsm
           refine hsm.mono ?_
           rintro e w10 ⟨rfl, hb10⟩
           have Hb10 : Hid (Below w7.heap.size w7 w10) := Lib.hid (show Below w7.heap.size w7 w10 from (by have hbq := hb10; exact (by repeat' (first | with_reducible exact Below.refl _ _ | with_reducible assumption | with_reducible refine below_drewN ?_ _ | with_reducible refine Below.drew ?_ | with_reducible refine Below.alloc ?_ ?_ _ | with_reducible refine Below.setCell ?_ ?_ _ | with_reducible refine Below.trans ?_ (Below.mono (by with_reducible assumption) ?_) | with_reducible refine below_only ?_ (by with_reducible assumption) ?_ ?_ | (simp; done) | (simp; omega) | omega))))
           clear hsm hb10)
        | (go_at_call 12
           refine (awake07_any _).mono ?_
           rintro e w11 ⟨rfl, hb11⟩
           have Hb11 := Lib.hid hb11
           clear hb11)
        | fail)
      go_ret
      have h1 := Hb10.out.size
      exact ⟨rfl, Hb3.out.trans (Below.mono (((Hb3i.out.trans (Hb7.out.mono hs3i)).trans (Hb10.out.mono (by omega))).trans (Hb11.out.mono (by omega))) hs33)⟩
end Go.Proofs.Ytabcadpfhachoaa
