/- Plain: what is claimed, and what is left, do not depend on the order of the lines; the walk of ClaimOrder. -/
import Derived.Test.YtglanlpjoaholaaGreatYC
import Derived.Test.YtglanlpjoaholaaGreatYD
import Derived.Test.YtglanlpjoaholaaGreatY7
import Derived.Test.YtglanlpjoaholaaGreatVs
namespace Go.Proofs.YtglanlpjoaholaaGreat
open Go.RowKit Go.Shelf
set_option linter.unusedVariables false
set_option linter.unusedSimpArgs false

theorem rectsP_rev (p : Ln → Bool) (L : List Ln) (x y : Int) : inL (rectsP p L.reverse) x y = inL (rectsP p L) x y := by rw [rectsP_in, rectsP_in, List.any_reverse]
theorem validL_rev (L : List Ln) : validL L.reverse = validL L := by unfold validL; rw [List.all_reverse]
theorem claimed_rev {L : List Ln} (hv : validL L = true) (s : Int) : claimedP L.reverse s = claimedP L s := by
  have h := canonP_congr _ _ (rectsP_pos (by rw [validL_rev]; exact hv : validL L.reverse = true) (bitP s)) (rectsP_pos hv (bitP s)) (rectsP_rev (bitP s) L)
  unfold claimedP
  rw [List.length_reverse, validL_rev, h]
theorem rest_rev {L : List Ln} (hv : validL L = true) (p : Int) {r : List R4} (hr : ∀ q ∈ r, q.l < q.r) : restCP L.reverse p r = restCP L p r := by
  have h := choose_eq (how := notB) (how' := notB) rfl rfl hr (rectsP_pos (by rw [validL_rev]; exact hv : validL L.reverse = true) (onP p)) hr (rectsP_pos hv (onP p)) (fun x y => by rw [rectsP_rev])
  unfold restCP
  rw [List.length_reverse, validL_rev, h]
theorem rectsP_rev_len {R : List (List R4)} {nc k : Nat} {L : List Ln} (h : LsOk R nc k L) (hk : k ≤ 4) (p : Ln → Bool) : (rectsP p L.reverse).length ≤ 480 := by
  have h1 := rectsP_len p 120 L.reverse fun x hx => (h.ok x (List.mem_reverse.1 hx)).reg.len
  have hl := h.len
  rw [List.length_reverse] at h1
  exact Nat.le_trans h1 (Nat.mul_le_mul_right 120 (by omega : L.length ≤ 4))
/-- What is left of a parcel. -/
theorem left_reg {R : List (List R4)} {nc k : Nat} {L : List Ln} (hR : PcOk R) (h : LsOk R nc k L) (hk : k ≤ 4) (p : Ln → Bool) {i : Nat} (hi : i < R.length) :
    Reg 30 99 (chooseP notB R[i] (rectsP p L)) ∧ ∀ x y, inL (chooseP notB R[i] (rectsP p L)) x y = (inL R[i] x y && !(L.any fun z => p z && inL z.rg x y)) := by
  have hri := (hR.at' i hi).ins (by have := hR.m; omega)
  have hpos := rectsP_pos h.valid p
  have hc := choose_canon notB rfl R[i] (rectsP p L) hri.pos hpos
  have hP : ∀ x y, notB (inL R[i] x y) (inL (rectsP p L) x y) = true → 0 ≤ x ∧ x < 30 ∧ 0 ≤ y ∧ y < 9 := fun x y hxy => by
    unfold notB at hxy
    rw [Bool.and_eq_true] at hxy
    have := (hR.at' i hi).in x y hxy.1
    have := hR.m
    omega
  obtain ⟨X, x1, x2, x3⟩ := h.cut
  have hb := hc.bd 0 30 0 30 (fun x y hxy => by have := hP x y hxy; omega)
  refine ⟨⟨hb, hc.own fun q hq => (hb q hq).2.1, ?_⟩, fun x y => by rw [hc.mem, rectsP_in]; rfl⟩
  have h2 := canon_len hc (X := X) (fun y => Cut.how notB (x3 _ (List.getElem_mem hi) y) (by
    have e : (fun x => inL (rectsP p L) x y) = fun x => L.any fun z => p z && inL z.rg x y := by funext x; rw [rectsP_in]
    rw [e]
    exact cut_anyL L fun x hx => x2 x hx y)) 9 (fun x y hxy => by have := hP x y hxy; omega)
  have h3 : X.length / 2 ≤ 11 := by omega
  have := Nat.mul_le_mul_left 9 h3
  omega
theorem rest_eq {R : List (List R4)} {nc k : Nat} {L : List Ln} (hR : PcOk R) (h : LsOk R nc k L) (hk : k ≤ 4) (p : Int) {i : Nat} (hi : i < R.length) : restCP L p R[i] = (chooseP notB R[i] (rectsP (onP p) L), 0) := by
  obtain ⟨h2, -⟩ := left_reg hR h hk (onP p) hi
  have hl := h.len
  have := h2.len
  have hv : validP R[i] = true := ((hR.at' i hi).reg (by have := hR.m; omega)).valid (by omega) (by omega)
  unfold restCP
  rw [if_neg (by omega), if_pos (by rw [h.valid, hv]; rfl)]
  unfold limP
  rw [if_neg (by omega)]
theorem nums_get (n i : Nat) (h : i < (nums n).length) : (nums n)[i] = (i : Int) + 1 := by simp [nums]
theorem lns_rev (l : LL) : lns l.reverse = (lns l).reverse := by simp [lns]
set_option maxHeartbeats 8000000 in
set_option maxRecDepth 100000 in
theorem orderLaw13 (A : Option Addr) (n c : Nat) (zs : List Int) (sc tu : Int) (w : World) (hn : zs.length = n) (hc : n ≤ c) (hm : c ≤ maxLen) (hw : ∀ z ∈ zs, (Lit.int .i64 z).wf = true) (hA : Lies w A n (zs.map (.int .i64))) (hsc : 0 ≤ sc ∧ sc ≤ 255) (htu : 0 ≤ tu ∧ tu ≤ 255) :
    Calls Tryz.prog 4 #[.slice A n c, .int .u8 sc, .int .u8 tu] w fun e w' => e = .returned (.bool true) ∧ Below w.heap.size w w' := by
  obtain ⟨i2, hi2, hi2z, hl1, hl2⟩ := info_parts Tryz.infoLine
  have HN := Lib.hid (new_any A n c zs w hn hc hm hw hA)
  clear hn hc hm hw hA
  go_enter Tryz.func4, Tryz.ntmps4
  go_wp2_with fail
  refine HN.out.mono ?_
  rintro e w1 ⟨g, rfl, hwg, ht1, hb1⟩
  have Ht1 := Lib.hid ht1
  have Hb1 := Lib.hid hb1
  have hg1 := ht1.lt
  have hs1 := hb1.size
  clear ht1 hb1 HN
  go_wp2_with fail
  refine (crops_any g _ w1 Ht1.out).mono ?_
  rintro e w2 ⟨C, CA, cc, r2, rfl, hC, ht2, hg2, hCl, -⟩
  have Ht2 := Lib.hid ht2
  have Hg2 := Lib.hid hg2
  obtain ⟨nc, hnc⟩ : ∃ nc, C.length = nc := ⟨_, rfl⟩
  rw [hnc] at hCl ⊢
  clear hC ht2 hg2 Ht1 hnc
  go_wp2_with fail
  refine (lines_any g r2 CA nc cc 4 w2 Ht2.out (by omega) (Nat.le_refl _)).mono ?_
  rintro e w3 ⟨L, LA, lc, R, NA, kc, RA, rc, r3, k, rfl, hL, hnu, hRo, -, hg3, hpc, hm1, hok, hk4⟩
  have HSL := Lib.hid hL.sll
  have HSR := Lib.hid hRo.slg
  have HSN : Hid (SlI w3 NA R.length kc (nums R.length)) := Lib.hid (by
    obtain ⟨A', c', e, h1, h2, h3⟩ := own_slice hnu
    injection e with e1 e2 e3
    subst e1 e3
    exact ⟨nums_len _, h2, h3, h1⟩)
  have Hb3 : Hid (Below w.heap.size w w3) := Lib.hid (below_only Hb1.out (only_trans Hg2.out hg3) hwg hs1)
  have Hpc := Lib.hid hpc
  have Hok := Lib.hid hok
  have hLl : L.length ≤ 4 := by have := hok.len; rw [lns_len] at this; omega
  have hR3 : R.length ≤ 3 := by have := hpc.m; rwa [rgs_len] at this
  clear hL hnu hRo hg3 hpc hok Hg2 Ht2 Hb1
  have hs3 := Hb3.out.size
  have hwl : IntKind.i64.wrap ((L.length : Int) - 1) = (L.length : Int) - 1 := IntWalk.i64_in _ (by omega)
  obtain ⟨ln, hln⟩ : ∃ ln, L.length = ln := ⟨_, rfl⟩
  have Hln := Lib.hid hln
  rw [hln] at HSL hLl hwl ⊢
  clear hln
  go_upto_region 4 with fail
  go_wp2_with fail
  go_loopw [11, 12] (fun bv iv wr => ∃ t : Nat, t ≤ ln ∧ iv = .int .i64 ((ln : Int) - 1 - (t : Int)) ∧ wr.ownsRow w3.heap.size 38 4 bv t (lnCells (L.reverse.take t)) ∧ Below w3.heap.size w3 wr) (fun _ iv _ => (intOf iv + 1).toNat)
  case atStart => exact ⟨0, Nat.zero_le _, by simp, World.ownsRow_nil _ _ _ _, Below.refl _ _⟩
  case round =>
    obtain ⟨t, ht, rfl, hown, hbw⟩ := hrel
    have Hown := Lib.hid hown
    have Hbw := Lib.hid hbw
    have hsw := hbw.size
    clear hown hbw
    by_cases htl : t < ln
    · have hge : (0 : Int) ≤ (ln : Int) - 1 - (t : Int) := by omega
      obtain ⟨j, hj⟩ : ∃ j : Nat, ln - 1 - t = j := ⟨_, rfl⟩
      have hji : (ln : Int) - 1 - (t : Int) = (j : Int) := by omega
      have hjl : j < L.length := by have := Hln.out; omega
      have Hrt : Hid (lnCells (L.reverse.take (t + 1)) = lnCells (L.reverse.take t) ++ lnC L[j]) := Lib.hid (by
        have htr : t < L.reverse.length := by rw [List.length_reverse]; have := Hln.out; omega
        rw [List.take_succ_eq_append_getElem htr, lnCells_app, List.getElem_reverse]
        have e : L.length - 1 - t = j := by have := Hln.out; omega
        simp only [e, lnCells, List.flatMap_cons, List.flatMap_nil, List.append_nil])
      rw [hji]
      have hjn : (j : Int) < (ln : Int) := by omega
      have hj0 : (0 : Int) ≤ (j : Int) := by omega
      have hwj : IntKind.i64.wrap ((j : Int) - 1) = (j : Int) - 1 := IntWalk.i64_in _ (by omega)
      obtain ⟨b2, o2, rfl, hb2, g0, g1, g2, g3, -⟩ := (HSL.out.below Hbw.out).at j hjl
      generalize L[j] = y at *
      obtain ⟨⟨ypc, yrg, ycr, ysch⟩, ⟨ya, yc⟩⟩ := y
      dsimp only [lnC] at *
      generalize lnCells (L.reverse.take t) = Q at *
      have Hji := Lib.hid hji
      clear hji hj hge
      go_wp2_with (first
        | (at_builtin
           refine wpList_append_any _ rfl (.tmp 39) (.tmp 44) _ rfl w3.heap.size 38 i2 _ 4 48 Tryz.underlying25 hi2 hi2z hl1 hl2 rfl (by omega) _ t Q rfl
             (Hown.out.alloc _) _ _ 1 1 [.int .i64 ypc, .slice ya yrg.length yc, .int .i64 ycr, .int .i64 ysch] rfl ⟨rfl, fun _ => ⟨_, rfl, Nat.lt_succ_self _, fun j u hu => (by exact news_any _ _ _ j u hu)⟩⟩ (by simp [Value.oneCell']) (by simp only [maxLen]; omega) (by omega) (by simp; omega) ?_
           intro v5 w5 hown5 hg5 hat5)
        | fail)
      go_roundw
      case rel => exact ⟨t + 1, by omega, by rw [show (ln : Int) - 1 - ((t + 1 : Nat) : Int) = (j : Int) - 1 by have := Hji.out; omega], by rw [Hrt.out]; exact hown5, Below.grown (Hbw.out.alloc hsw _) hg5 (by simp; omega) (own_base Hown.out)⟩
      case measure => simp [intOf] <;> omega
    · obtain rfl : t = ln := by omega
      have hge : ¬ (0 : Int) ≤ (t : Int) - 1 - (t : Int) := by omega
      obtain ⟨BA, bc, rfl, h1, h2, h3⟩ := own_slice Hown.out
      rw [List.take_of_length_le (by rw [List.length_reverse]; have := Hln.out; omega)] at h1
      have HSB : Hid (SlL wr BA t bc L.reverse) := Lib.hid ⟨by rw [List.length_reverse]; exact Hln.out, h2, h3, h1, fun x hx => (HSL.out.fits x (List.mem_reverse.1 hx)).below Hbw.out⟩
      obtain ⟨wq, rfl⟩ : ∃ wq : World, wq = wr := ⟨_, rfl⟩
      clear h1 h2 h3 Hown
      have HSLq := Lib.hid (HSL.out.below Hbw.out)
      have HSRq := Lib.hid (HSR.out.below Hbw.out)
      have HSNq := Lib.hid (HSN.out.below Hbw.out)
      have Hb0 := Lib.hid (Hb3.out.trans (Hbw.out.mono hs3))
      have hsq := Hb0.out.size
      clear HSL HSR HSN Hb3 Hbw hsw
      have hmz : ¬ (R.length : Int) = 0 := by omega
      obtain ⟨kq, hkq⟩ : ∃ kq : Nat, tu % (R.length : Int) = (kq : Int) := ⟨(tu % (R.length : Int)).toNat, by have := Int.emod_nonneg tu hmz; omega⟩
      have hkR : kq < R.length := by have := Int.emod_lt_of_pos tu (by omega : (0 : Int) < (R.length : Int)); omega
      have hval := Hok.out.valid
      have Hcr := Lib.hid (chosen_reg Hpc.out Hok.out hk4 (bitP (sc % 4)))
      have hceq := claimed_eq Hpc.out Hok.out hk4 (sc % 4) (by omega)
      have HC1 := Lib.hid (claimed_any LA t lc L (sc % 4) wq HSLq.out (Nat.le_trans Hcr.out.1 (by omega)))
      have HC2 := Lib.hid (fun W (hW : Below wq.heap.size wq W) => claimed_any BA t bc L.reverse (sc % 4) W (HSB.out.below hW) (by rw [lns_rev]; exact Nat.le_trans (rectsP_rev_len Hok.out hk4 _) (by omega)))
      rw [lns_rev, claimed_rev hval, hceq] at HC2
      rw [hceq] at HC1
      clear hceq Hcr
      generalize canonP (rectsP (bitP (sc % 4)) (lns L)) = a at *
      go_upto_region 9 with fail
      rw [hkq]
      clear hkq
      go_wp2_with fail
      refine HC1.out.mono ?_
      rintro e w4 ⟨v4, rfl, hown4, hb4⟩
      dsimp only at hown4 ⊢
      obtain ⟨D1, d1, rfl, hD1⟩ := SlR.of_own hown4
      have HD1 := Lib.hid hD1
      have Hb4 := Lib.hid hb4
      have hs4 := hb4.size
      clear hown4 hb4 hD1 HC1
      go_upto_region 10 with fail
      obtain ⟨w5, hw5⟩ : ∃ w5 : World, w5 = w4.alloc (.cells #[.slice D1 a.length d1] 33) := ⟨_, rfl⟩
      rw [← hw5]
      have HZ1 : Hid (w5.heap[w4.heap.size]? = some (.cells #[.slice D1 a.length d1] 33 (0, 0))) := Lib.hid (by rw [hw5]; exact heap_alloc_new w4 _)
      have HD15 : Hid (SlR w5 D1 a.length d1 a) := Lib.hid (by rw [hw5]; exact HD1.out.alloc _)
      have Hb5 : Hid (Below wq.heap.size wq w5) := Lib.hid (by rw [hw5]; exact Hb4.out.alloc hs4 _)
      have hlZ1 : w4.heap.size < w5.heap.size := by rw [hw5]; simp
      obtain ⟨Z1, hZ1⟩ : ∃ Z, w4.heap.size = Z := ⟨_, rfl⟩
      rw [hZ1] at HZ1 hlZ1 ⊢
      clear hw5 hZ1 HD1 Hb4 hs4
      have hs5 := Hb5.out.size
      go_wp2_with fail
      refine (HC2.out _ Hb5.out).mono ?_
      rintro e w6 ⟨v6, rfl, hown6, hb6⟩
      dsimp only at hown6 ⊢
      obtain ⟨D2, d2, rfl, hD2⟩ := SlR.of_own hown6
      have HD2 := Lib.hid hD2
      have Hb6 := Lib.hid hb6
      have hs6 := hb6.size
      clear hown6 hb6 hD2 HC2
      go_upto_region 11 with fail
      obtain ⟨w7, hw7⟩ : ∃ w7 : World, w7 = w6.alloc (.cells #[.slice D2 a.length d2] 33) := ⟨_, rfl⟩
      rw [← hw7]
      have HZ2 : Hid (w7.heap[w6.heap.size]? = some (.cells #[.slice D2 a.length d2] 33 (0, 0))) := Lib.hid (by rw [hw7]; exact heap_alloc_new w6 _)
      have HD27 : Hid (SlR w7 D2 a.length d2 a) := Lib.hid (by rw [hw7]; exact HD2.out.alloc _)
      have Hb57 : Hid (Below w5.heap.size w5 w7) := Lib.hid (by rw [hw7]; exact Hb6.out.alloc hs6 _)
      have hlZ2 : w6.heap.size < w7.heap.size := by rw [hw7]; simp
      obtain ⟨Z2, hZ2⟩ : ∃ Z, w6.heap.size = Z := ⟨_, rfl⟩
      rw [hZ2] at HZ2 hlZ2 ⊢
      clear hw7 hZ2 HD2 Hb6 hs6
      have HZ17 := Lib.hid ((Hb57.out.block _ hlZ1).trans HZ1.out)
      have HD17 := Lib.hid (HD15.out.below Hb57.out)
      have Hb7 := Lib.hid (Hb5.out.trans (Hb57.out.mono hs5))
      have hs7 := Hb57.out.size
      clear HZ1 HD15 Hb5 Hb57
      obtain ⟨br, or, rfl, hbr, cR, hSk⟩ := HSRq.out.at kq hkR
      obtain ⟨bn, on, rfl, hbn, cN⟩ := HSNq.out.at kq (by rw [nums_len]; exact hkR)
      rw [nums_get] at cN
      have HSk := Lib.hid hSk
      have hreq := rest_eq Hpc.out Hok.out hk4 ((kq : Int) + 1) (i := kq) (by rw [rgs_len]; exact hkR)
      have e2 : (rgs R)[kq]'(by rw [rgs_len]; exact hkR) = R[kq].1 := by simp [rgs]
      rw [e2] at hreq
      clear e2 hSk
      have Hrl := Lib.hid (Nat.le_trans (rectsP_rev_len Hok.out hk4 (onP ((kq : Int) + 1))) (by omega : 480 ≤ 750))
      have Hrl2 := Lib.hid (Nat.le_trans (chosen_reg Hpc.out Hok.out hk4 (onP ((kq : Int) + 1))).1 (by omega : 480 ≤ 750))
      have hpos : ∀ q ∈ R[kq].1, q.l < q.r := by
        have := (Hpc.out.at' kq (by rw [rgs_len]; exact hkR)).ins (by omega)
        have e : (rgs R)[kq]'(by rw [rgs_len]; exact hkR) = R[kq].1 := by simp [rgs]
        rw [e] at this
        exact this.pos
      have hrev := rest_rev hval ((kq : Int) + 1) hpos
      rw [hreq] at hrev
      have HR1 := Lib.hid (fun W (hW : Below wq.heap.size wq W) => restC_any LA t lc L ((kq : Int) + 1) R[kq].2.a R[kq].1.length R[kq].2.c R[kq].1 W (HSLq.out.below hW) (HSk.out.below hW) Hrl2.out)
      have HR2 := Lib.hid (fun W (hW : Below wq.heap.size wq W) => restC_any BA t bc L.reverse ((kq : Int) + 1) R[kq].2.a R[kq].1.length R[kq].2.c R[kq].1 W (HSB.out.below hW) (HSk.out.below hW) (by rw [lns_rev]; exact Hrl.out))
      rw [hreq] at HR1
      rw [lns_rev, hrev] at HR2
      clear hreq hrev hpos Hrl Hrl2 hval
      obtain ⟨b, hb⟩ : ∃ b, chooseP notB R[kq].1 (rectsP (onP ((kq : Int) + 1)) (lns L)) = b := ⟨_, rfl⟩
      rw [hb] at HR1 HR2
      clear hb
      obtain ⟨rk, hrk⟩ : ∃ rk, R[kq] = rk := ⟨_, rfl⟩
      rw [hrk] at cR HR1 HR2
      clear hrk HSk HSRq HSNq HSLq HSB
      have hqR : (kq : Int) < (R.length : Int) := by omega
      have hbr7 : br < w7.heap.size := by have := Hb7.out.size; omega
      have hbn7 : bn < w7.heap.size := by have := Hb7.out.size; omega
      have cR7 : w7.drew.cell? ⟨br, or + kq, none⟩ = some (.slice rk.2.a rk.1.length rk.2.c) := (Hb7.out.cell (p := ⟨br, or + kq, none⟩) hbr).trans cR
      have cN7 : w7.drew.cell? ⟨bn, on + kq, none⟩ = some (.int .i64 ((kq : Int) + 1)) := (Hb7.out.cell (p := ⟨bn, on + kq, none⟩) hbn).trans cN
      have cNa : ∀ o, (w7.alloc o).drew.cell? ⟨bn, on + kq, none⟩ = some (.int .i64 ((kq : Int) + 1)) := fun o => by show (w7.alloc o).cell? _ = _; rw [World.cell?_alloc_lt w7 o _ hbn7]; exact cN7
      have cRa : ∀ o, (w7.alloc o).drew.cell? ⟨br, or + kq, none⟩ = some (.slice rk.2.a rk.1.length rk.2.c) := fun o => by show (w7.alloc o).cell? _ = _; rw [World.cell?_alloc_lt w7 o _ hbr7]; exact cR7
      go_cut [18, 19] (fun s18 s19 wx => ∃ (Z : Nat) (D : Option Addr) (dc : Nat), s18 = .pointer (some ⟨Z, 0, none⟩) ∧ s19 = .int .i64 0 ∧ wx.heap[Z]? = some (.cells #[.slice D b.length dc] 33 (0, 0)) ∧ Z < wx.heap.size ∧ SlR wx D b.length dc b ∧ Below w7.heap.size w7 wx)
      case first =>
        go_region_held3 (fun w' => w'.cell? ⟨bn, on + kq, none⟩ = some (.int .i64 ((kq : Int) + 1)) ∧ w'.cell? ⟨br, or + kq, none⟩ = some (.slice rk.2.a rk.1.length rk.2.c)) (first | with_reducible exact ⟨cN7, cR7⟩ | with_reducible exact ⟨cNa _, cRa _⟩ | with_reducible exact ⟨cNs _, cRs _⟩ | with_reducible exact ⟨cN8a _, cR8a _⟩ | go_keep | ((repeat' apply And.intro) <;> go_keep))
          (first
            | (go_at_call 17
               refine (HR1.out _ (Hb7.out.trans (Below.mono (show Below w7.heap.size w7 _ from (by repeat' (first | with_reducible exact Below.refl _ _ | with_reducible refine below_drewN ?_ _ | with_reducible refine Below.drew ?_ | with_reducible refine Below.alloc ?_ ?_ _ | with_reducible refine Below.setCell ?_ ?_ _ | with_reducible refine Below.trans ?_ (Below.mono (by with_reducible assumption) ?_) | (simp; done) | (simp; omega) | omega))) (by have := Hb7.out.size; omega)))).mono ?_
               rintro e w8 ⟨v8, rfl, hown8, hb8⟩
               dsimp only at hown8 ⊢
               obtain ⟨D3, d3, rfl, hD3⟩ := SlR.of_own hown8
               have HD3 := Lib.hid hD3
               have HO8 := Lib.hid hown8
               have Hb8 : Hid (Below w7.heap.size w7 w8) := Lib.hid (show Below w7.heap.size w7 w8 from (by have hbq := hb8; exact (by repeat' (first | with_reducible exact Below.refl _ _ | with_reducible assumption | with_reducible refine below_drewN ?_ _ | with_reducible refine Below.drew ?_ | with_reducible refine Below.alloc ?_ ?_ _ | with_reducible refine Below.setCell ?_ ?_ _ | with_reducible refine Below.trans ?_ (Below.mono (by with_reducible assumption) ?_) | with_reducible refine below_only ?_ (by with_reducible assumption) ?_ ?_ | (simp; done) | (simp; omega) | omega))))
               have hs8 := Hb8.out.size
               have cR8 := (Hb8.out.cell (p := ⟨br, or + kq, none⟩) hbr7).trans cR7
               have cN8 := (Hb8.out.cell (p := ⟨bn, on + kq, none⟩) hbn7).trans cN7
               have hbn8 : bn < w8.heap.size := by omega
               have hbr8 : br < w8.heap.size := by omega
               have cNs : ∀ v, (w8.setCell ⟨w7.heap.size, 0, none⟩ v).cell? ⟨bn, on + kq, none⟩ = some (.int .i64 ((kq : Int) + 1)) := fun v => by rw [World.cell?_of_block (Below.heap_setCell _ _ _ _ (by show bn ≠ w7.heap.size; omega))]; exact cN8
               have cRs : ∀ v, (w8.setCell ⟨w7.heap.size, 0, none⟩ v).cell? ⟨br, or + kq, none⟩ = some (.slice rk.2.a rk.1.length rk.2.c) := fun v => by rw [World.cell?_of_block (Below.heap_setCell _ _ _ _ (by show br ≠ w7.heap.size; omega))]; exact cR8
               have cN8a : ∀ o, (w8.alloc o).cell? ⟨bn, on + kq, none⟩ = some (.int .i64 ((kq : Int) + 1)) := fun o => by rw [World.cell?_alloc_lt w8 o _ hbn8]; exact cN8
               have cR8a : ∀ o, (w8.alloc o).cell? ⟨br, or + kq, none⟩ = some (.slice rk.2.a rk.1.length rk.2.c) := fun o => by rw [World.cell?_alloc_lt w8 o _ hbr8]; exact cR8
               try (have hl78 : w7.heap.size < w8.heap.size := (by have := hb8.size; simp at this; omega); have hz8 := (hb8.block w7.heap.size (by simp)).trans (heap_alloc_new w7 (.cells #[.slice none 0 0] 33)); have zc8 := cell_of_row w8 w7.heap.size 0 _ _ _ hz8; have zf8 := frozen_of_row w8 w7.heap.size 0 _ _ hz8; have Hz8 := Lib.hid hz8; clear hz8)
               clear hown8 hD3)
            | fail)
        · go_wp2
          go_meet
          case rel => exact ⟨w8.heap.size, D3, d3, rfl, rfl, heap_alloc_new w8 _, by simp, HD3.out.alloc _, Hb8.out.alloc hs8 _⟩
        · go_wp2
          go_meet
          case rel =>
            have hss := heap_setCell_same w8 w7.heap.size 0 _ _ (.slice D3 b.length d3) Hz8.out
            have hlow := own_base HO8.out
            refine ⟨w7.heap.size, D3, d3, rfl, rfl, by simpa using hss, by simp; omega, ?_, Hb8.out.setCell (Nat.le_refl _) _⟩
            obtain ⟨D4, d4, e4, hS4⟩ := SlR.of_own (own_setNe HO8.out (p := ⟨w7.heap.size, 0, none⟩) (fun q hq => by have := hlow q hq; simp at this; show q ≠ w7.heap.size; omega) (.slice D3 b.length d3))
            injection e4 with e4 e5 e6
            subst e4 e6
            exact hS4
      case rest =>
        obtain ⟨w9, rfl⟩ : ∃ w9 : World, w9 = wc := ⟨_, rfl⟩
        obtain ⟨Z3, D3, d3, rfl, rfl, hZ3, hlZ3, hD3, hb9⟩ := hcut
        have HZ3 := Lib.hid hZ3
        have HD39 := Lib.hid hD3
        have hs79 := hb9.size
        have HZ19 := Lib.hid ((hb9.block _ (by omega)).trans HZ17.out)
        have HZ29 := Lib.hid ((hb9.block _ hlZ2).trans HZ2.out)
        have HD19 := Lib.hid (HD17.out.below hb9)
        have HD29 := Lib.hid (HD27.out.below hb9)
        have Hb79 := Lib.hid (Hb7.out.trans (hb9.mono (by have := Hb7.out.size; omega)))
        clear hZ3 hD3 hb9 HZ17 HZ2 HD17 HD27 cR7 cN7 cNa cRa HR1 hbr7 hbn7
        have hbr9 : br < w9.heap.size := by have := Hb79.out.size; omega
        have hbn9 : bn < w9.heap.size := by have := Hb79.out.size; omega
        have cR9 : w9.drew.cell? ⟨br, or + kq, none⟩ = some (.slice rk.2.a rk.1.length rk.2.c) := (Hb79.out.cell (p := ⟨br, or + kq, none⟩) hbr).trans cR
        have cN9 : w9.drew.cell? ⟨bn, on + kq, none⟩ = some (.int .i64 ((kq : Int) + 1)) := (Hb79.out.cell (p := ⟨bn, on + kq, none⟩) hbn).trans cN
        have cNb : ∀ o, (w9.alloc o).drew.cell? ⟨bn, on + kq, none⟩ = some (.int .i64 ((kq : Int) + 1)) := fun o => by show (w9.alloc o).cell? _ = _; rw [World.cell?_alloc_lt w9 o _ hbn9]; exact cN9
        have cRb : ∀ o, (w9.alloc o).drew.cell? ⟨br, or + kq, none⟩ = some (.slice rk.2.a rk.1.length rk.2.c) := fun o => by show (w9.alloc o).cell? _ = _; rw [World.cell?_alloc_lt w9 o _ hbr9]; exact cR9
        go_upto_region 12 with fail
        go_cut [20, 21] (fun s20 s21 wx => ∃ (Z : Nat) (D : Option Addr) (dc : Nat), s20 = .pointer (some ⟨Z, 0, none⟩) ∧ s21 = .int .i64 0 ∧ wx.heap[Z]? = some (.cells #[.slice D b.length dc] 33 (0, 0)) ∧ Z < wx.heap.size ∧ SlR wx D b.length dc b ∧ Below w9.heap.size w9 wx)
        case first =>
          go_region_held3 (fun w' => w'.cell? ⟨bn, on + kq, none⟩ = some (.int .i64 ((kq : Int) + 1)) ∧ w'.cell? ⟨br, or + kq, none⟩ = some (.slice rk.2.a rk.1.length rk.2.c)) (first | with_reducible exact ⟨cN9, cR9⟩ | with_reducible exact ⟨cNb _, cRb _⟩ | with_reducible exact ⟨cNt _, cRt _⟩ | with_reducible exact ⟨cNAa _, cRAa _⟩ | go_keep | ((repeat' apply And.intro) <;> go_keep))
            (first
              | (go_at_call 17
                 refine (HR2.out _ (Hb79.out.trans (Below.mono (show Below w9.heap.size w9 _ from (by repeat' (first | with_reducible exact Below.refl _ _ | with_reducible refine below_drewN ?_ _ | with_reducible refine Below.drew ?_ | with_reducible refine Below.alloc ?_ ?_ _ | with_reducible refine Below.setCell ?_ ?_ _ | with_reducible refine Below.trans ?_ (Below.mono (by with_reducible assumption) ?_) | (simp; done) | (simp; omega) | omega))) (by have := Hb79.out.size; omega)))).mono ?_
                 rintro e wA ⟨vA, rfl, hownA, hbA⟩
                 dsimp only at hownA ⊢
                 obtain ⟨D5, d5, rfl, hD5⟩ := SlR.of_own hownA
                 have HD5 := Lib.hid hD5
                 have HOA := Lib.hid hownA
                 have HbA : Hid (Below w9.heap.size w9 wA) := Lib.hid (show Below w9.heap.size w9 wA from (by have hbq := hbA; exact (by repeat' (first | with_reducible exact Below.refl _ _ | with_reducible assumption | with_reducible refine below_drewN ?_ _ | with_reducible refine Below.drew ?_ | with_reducible refine Below.alloc ?_ ?_ _ | with_reducible refine Below.setCell ?_ ?_ _ | with_reducible refine Below.trans ?_ (Below.mono (by with_reducible assumption) ?_) | with_reducible refine below_only ?_ (by with_reducible assumption) ?_ ?_ | (simp; done) | (simp; omega) | omega))))
                 have hsA := HbA.out.size
                 have cRA := (HbA.out.cell (p := ⟨br, or + kq, none⟩) hbr9).trans cR9
                 have cNA := (HbA.out.cell (p := ⟨bn, on + kq, none⟩) hbn9).trans cN9
                 have hbnA : bn < wA.heap.size := by omega
                 have hbrA : br < wA.heap.size := by omega
                 have cNt : ∀ v, (wA.setCell ⟨w9.heap.size, 0, none⟩ v).cell? ⟨bn, on + kq, none⟩ = some (.int .i64 ((kq : Int) + 1)) := fun v => by rw [World.cell?_of_block (Below.heap_setCell _ _ _ _ (by show bn ≠ w9.heap.size; omega))]; exact cNA
                 have cRt : ∀ v, (wA.setCell ⟨w9.heap.size, 0, none⟩ v).cell? ⟨br, or + kq, none⟩ = some (.slice rk.2.a rk.1.length rk.2.c) := fun v => by rw [World.cell?_of_block (Below.heap_setCell _ _ _ _ (by show br ≠ w9.heap.size; omega))]; exact cRA
                 have cNAa : ∀ o, (wA.alloc o).cell? ⟨bn, on + kq, none⟩ = some (.int .i64 ((kq : Int) + 1)) := fun o => by rw [World.cell?_alloc_lt wA o _ hbnA]; exact cNA
                 have cRAa : ∀ o, (wA.alloc o).cell? ⟨br, or + kq, none⟩ = some (.slice rk.2.a rk.1.length rk.2.c) := fun o => by rw [World.cell?_alloc_lt wA o _ hbrA]; exact cRA
                 try (have hl9A : w9.heap.size < wA.heap.size := (by have := hbA.size; simp at this; omega); have hzA := (hbA.block w9.heap.size (by simp)).trans (heap_alloc_new w9 (.cells #[.slice none 0 0] 33)); have zcA := cell_of_row wA w9.heap.size 0 _ _ _ hzA; have zfA := frozen_of_row wA w9.heap.size 0 _ _ hzA; have HzA := Lib.hid hzA; clear hzA)
                 clear hownA hD5)
              | fail)
          · go_wp2
            go_meet
            case rel => exact ⟨wA.heap.size, D5, d5, rfl, rfl, heap_alloc_new wA _, by simp, HD5.out.alloc _, HbA.out.alloc hsA _⟩
          · go_wp2
            go_meet
            case rel =>
              have hss := heap_setCell_same wA w9.heap.size 0 _ _ (.slice D5 b.length d5) HzA.out
              have hlow := own_base HOA.out
              refine ⟨w9.heap.size, D5, d5, rfl, rfl, by simpa using hss, by simp; omega, ?_, HbA.out.setCell (Nat.le_refl _) _⟩
              obtain ⟨D6, d6, e7, hS6⟩ := SlR.of_own (own_setNe HOA.out (p := ⟨w9.heap.size, 0, none⟩) (fun q hq => by have := hlow q hq; simp at this; show q ≠ w9.heap.size; omega) (.slice D5 b.length d5))
              injection e7 with e7 e5 e6
              subst e7 e6
              exact hS6
        case rest =>
          obtain ⟨wB, rfl⟩ : ∃ wB : World, wB = wc := ⟨_, rfl⟩
          obtain ⟨Z4, D5, d5, rfl, rfl, hZ4, hlZ4, hD5, hbB⟩ := hcut
          have z1 := cell_of_row wB Z1 0 _ _ _ ((hbB.block _ (by omega)).trans HZ19.out)
          have z2 := cell_of_row wB Z2 0 _ _ _ ((hbB.block _ (by omega)).trans HZ29.out)
          have z3 := cell_of_row wB Z3 0 _ _ _ ((hbB.block _ hlZ3).trans HZ3.out)
          have z4 := cell_of_row wB Z4 0 _ _ _ hZ4
          have HSa := Lib.hid (fun W (hW : Below wB.heap.size wB W) => sameRef_any D1 D2 a.length d1 a.length d2 a a W ((HD19.out.below hbB).below hW) ((HD29.out.below hbB).below hW))
          have HSb := Lib.hid (fun W (hW : Below wB.heap.size wB W) => sameRef_any D3 D5 b.length d3 b.length d5 b b W ((HD39.out.below hbB).below hW) (hD5.below hW))
          rw [decide_eq_true rfl] at HSa HSb
          have HbB := Lib.hid (Hb79.out.trans (hbB.mono (by have := Hb79.out.size; omega)))
          have hlZ3B : Z3 < wB.heap.size := by have := hbB.size; omega
          clear hZ4 hD5 hbB HZ19 HZ29 HZ3 HD19 HD29 HD39
          go_wp2_with (first
            | (go_at_call_of 18 (Value.agg #[.slice D1 a.length d1])
               refine (HSa.out _ (Below.refl _ _)).mono ?_
               rintro e wC ⟨rfl, hbC⟩
               have z3C := (hbC.cell (p := ⟨Z3, 0, none⟩) hlZ3B).trans z3
               have z4C := (hbC.cell (p := ⟨Z4, 0, none⟩) hlZ4).trans z4
               have HbC := Lib.hid hbC
               clear hbC)
            | (go_at_call 18
               refine (HSb.out _ HbC.out).mono ?_
               rintro e wD ⟨rfl, hbD⟩
               have HbD := Lib.hid (HbC.out.trans (hbD.mono HbC.out.size))
               clear hbD)
            | (go_at_call 16
               refine (awake13_any _).mono ?_
               rintro e wE ⟨rfl, hbE⟩
               have HbE := Lib.hid (HbD.out.trans (hbE.mono HbD.out.size))
               clear hbE)
            | fail)
          go_ret
          exact ⟨rfl, Hb0.out.trans ((HbB.out.trans (HbE.out.mono HbB.out.size)).mono hsq)⟩
end Go.Proofs.YtglanlpjoaholaaGreat
