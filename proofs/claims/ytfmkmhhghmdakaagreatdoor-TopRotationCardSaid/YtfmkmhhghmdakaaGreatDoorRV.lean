import Derived.Test.YtfmkmhhghmdakaaGreatDoorRN
import Derived.Test.YtfmkmhhghmdakaaGreatDoorRQ
namespace Go.Proofs.YtfmkmhhghmdakaaGreatDoor
open Go.RowKit Go.Shelf
set_option linter.unusedVariables false
set_option linter.unusedSimpArgs false
set_option maxHeartbeats 64000000
set_option maxRecDepth 100000
structure LnsR (k : Nat) (L : LL) : Prop where
  cr : ∀ x ∈ L, 0 ≤ x.1.cr ∧ x.1.cr < (k : Int)
  vl : ∀ x ∈ L, validP x.1.rg = true
  mt : ∀ i j (hi : i < L.length) (hj : j < i), meetsP L[i].1.rg (L[j]'(by omega)).1.rg = false
  len : L.length ≤ 20
theorem lns_get' (l : LL) (i : Nat) (h : i < l.length) : (lns l)[i]'(by rw [lns_len]; exact h) = l[i].1 := by simp [lns]
theorem rotCheck_any (A : Option Addr) (n c : Nat) (L : LL) (C : Option Addr) (k cc : Nat) (K : List Cp) (w : World) (hA : SlL w A n c L) (hL : LnsR k L) (hC : SlC w C k cc K) (hK : cropsB K) :
    Calls Tryz.prog 211 #[.slice A n c, .slice C k cc] w fun e w' => e = .returned (.int .i64 0) ∧ Below w.heap.size w w' := by
  have hn20 : n ≤ 20 := by have := hL.len; have := hA.len; omega
  have hcap := hA.cap
  have hn20' : ¬ (20 : Int) < (n : Int) := by omega
  have HA := Lib.hid hA
  have Hln := Lib.hid hA.len
  have HL := Lib.hid hL
  have HCC := Lib.hid (fun W (h : Below w.heap.size w W) => cropCheck_any C k cc K W (hC.below h) hK)
  clear hA hL hC hK
  go_enter Tryz.func211, Tryz.ntmps211
  go_upto_region 7 with (first
    | (go_at_call 124; refine (HCC.out _ (Below.refl _ _)).mono ?_; rintro e w1 ⟨rfl, hb1⟩; have Hb1 := Lib.hid hb1; clear hb1)
    | fail)
  go_loopw [7, 24] (fun _ iv wr => ∃ i : Nat, i ≤ n ∧ iv = .int .i64 (i : Int) ∧ Below w.heap.size w wr) (fun _ iv _ => n - (intOf iv).toNat)
  case atStart => exact ⟨0, Nat.zero_le _, rfl, Hb1.out⟩
  case round =>
    clear Hb1
    obtain ⟨i, hi, rfl, hbw⟩ := hrel
    obtain ⟨wo, rfl⟩ : ∃ wo : World, wo = wr := ⟨_, rfl⟩
    have Hbw := Lib.hid hbw
    clear hbw
    by_cases hin : i < n
    · have hin' : (i : Int) < (n : Int) := by omega
      have hil : i < L.length := by rw [Hln.out]; exact hin
      obtain ⟨b, off, rfl, hbl, c0, c1, c2, c3, hS⟩ := (HA.out.below Hbw.out).at i hil
      have hcr := HL.out.cr L[i] (List.getElem_mem hil)
      generalize L[i] = x at *
      have g1 : ¬ x.1.cr < 0 := by omega
      have g2 : ¬ (k : Int) ≤ x.1.cr := by omega
      generalize x.1.cr = t at *
      clear hS hcr
      go_upto_region 9 with fail
      obtain ⟨wa, hwa⟩ : ∃ wa : World, wa = wo.alloc (.cells #[.int .i64 x.1.pc, .slice x.2.a x.1.rg.length x.2.c, .int .i64 t, .int .i64 x.1.sch] 35) := ⟨_, rfl⟩
      rw [← hwa]
      have hra : wa.heap[wo.heap.size]? = some (.cells #[.int .i64 x.1.pc, .slice x.2.a x.1.rg.length x.2.c, .int .i64 t, .int .i64 x.1.sch] 35 (0, 0)) := by rw [hwa]; exact heap_alloc_new wo _
      have Hba : Hid (Below w.heap.size w wa) := Lib.hid (by rw [hwa]; exact Hbw.out.alloc Hbw.out.size _)
      have a2 := cell_of_row _ _ 2 _ _ _ hra
      clear hwa hra c0 c1 c2 c3
      go_wp2
      go_roundw
      case rel => exact ⟨i + 1, by omega, by go_num, Hba.out⟩
      case measure => simp [intOf]; omega
    · have hin' : ¬ (i : Int) < (n : Int) := by omega
      clear hi hin
      go_upto_region 13 with fail
      go_loopw [9, 41] (fun _ iv wr => ∃ i : Nat, i ≤ n ∧ iv = .int .i64 (i : Int) ∧ Below w.heap.size w wr) (fun _ iv _ => n - (intOf iv).toNat)
      case atStart => exact ⟨0, Nat.zero_le _, rfl, Hbw.out⟩
      case round =>
        clear Hbw hin'
        obtain ⟨i, hi, rfl, hbw⟩ := hrel
        obtain ⟨wo, rfl⟩ : ∃ wo : World, wo = wr := ⟨_, rfl⟩
        have Hbw := Lib.hid hbw
        clear hbw
        by_cases hin : i < n
        · have hin' : (i : Int) < (n : Int) := by omega
          have hil : i < L.length := by rw [Hln.out]; exact hin
          obtain ⟨b, off, rfl, hbl, c0, c1, c2, c3, hS⟩ := (HA.out.below Hbw.out).at i hil
          have hvl := HL.out.vl L[i] (List.getElem_mem hil)
          generalize L[i] = x at *
          have HV := Lib.hid (fun W (h : Below wo.heap.size wo W) => show Calls Tryz.prog 48 #[.agg #[.slice x.2.a x.1.rg.length x.2.c]] W fun e w' => e = .returned (.bool true) ∧ Below W.heap.size W w' from by
            have h1 := valid_any _ _ _ _ W (hS.below h)
            rw [hvl] at h1
            exact h1)
          clear hS hvl
          go_upto_region 15 with fail
          obtain ⟨wa, hwa⟩ : ∃ wa : World, wa = wo.alloc (.cells #[.int .i64 x.1.pc, .slice x.2.a x.1.rg.length x.2.c, .int .i64 x.1.cr, .int .i64 x.1.sch] 35) := ⟨_, rfl⟩
          rw [← hwa]
          have hra : wa.heap[wo.heap.size]? = some (.cells #[.int .i64 x.1.pc, .slice x.2.a x.1.rg.length x.2.c, .int .i64 x.1.cr, .int .i64 x.1.sch] 35 (0, 0)) := by rw [hwa]; exact heap_alloc_new wo _
          have Hbo : Hid (Below wo.heap.size wo wa) := Lib.hid (by rw [hwa]; exact gBel)
          have a1 := cell_of_row _ _ 1 _ _ _ hra
          clear hwa hra c0 c1 c2 c3
          go_wp2_with (first
            | (go_at_call 48; refine (HV.out _ Hbo.out).mono ?_; rintro e w2 ⟨rfl, hb2⟩; have Hb2 := Lib.hid (Hbw.out.trans ((Hbo.out.trans (hb2.mono Hbo.out.size)).mono Hbw.out.size)); clear hb2)
            | fail)
          go_roundw
          case rel => exact ⟨i + 1, by omega, by go_num, Hb2.out⟩
          case measure => simp [intOf]; omega
        · have hin' : ¬ (i : Int) < (n : Int) := by omega
          clear hi hin
          go_upto_region 19 with fail
          go_loopw [10, 11, 13, 52, 61] (fun _ _ _ iv _ wr => ∃ i : Nat, i ≤ n ∧ iv = .int .i64 (i : Int) ∧ Below w.heap.size w wr) (fun _ _ _ iv _ _ => n - (intOf iv).toNat)
          case atStart => exact ⟨0, Nat.zero_le _, rfl, Hbw.out⟩
          case round =>
            clear Hbw hin'
            obtain ⟨i, hi, rfl, hbw⟩ := hrel
            obtain ⟨wo, rfl⟩ : ∃ wo : World, wo = wr := ⟨_, rfl⟩
            have Hbw := Lib.hid hbw
            clear hbw
            by_cases hin : i < n
            · have hin' : (i : Int) < (n : Int) := by omega
              have hic : i ≤ c := by omega
              have hic' : (i : Int) ≤ (c : Int) := by omega
              have hil : i < L.length := by rw [Hln.out]; exact hin
              have HSx := Lib.hid (fun W (h : Below wo.heap.size wo W) => ((HA.out.below Hbw.out).fits L[i] (List.getElem_mem hil)).below h)
              obtain ⟨b, off, rfl, hbl, c0, c1, c2, c3, hS⟩ := (HA.out.below Hbw.out).at i hil
              have Hmt := Lib.hid (fun j (hj : j < i) => HL.out.mt i j hil hj)
              obtain ⟨x, hx⟩ : ∃ x, x = L[i] := ⟨_, rfl⟩
              rw [← hx] at c0 c1 c2 c3 hS
              simp only [← hx] at HSx Hmt
              clear hS hx
              go_upto_region 22 with fail
              obtain ⟨wa, hwa⟩ : ∃ wa : World, wa = wo.alloc (.cells #[.int .i64 x.1.pc, .slice x.2.a x.1.rg.length x.2.c, .int .i64 x.1.cr, .int .i64 x.1.sch] 35) := ⟨_, rfl⟩
              rw [← hwa]
              obtain ⟨X, hX⟩ : ∃ X, X = wo.heap.size := ⟨_, rfl⟩
              have Hra : Hid (wa.heap[X]? = some (.cells #[.int .i64 x.1.pc, .slice x.2.a x.1.rg.length x.2.c, .int .i64 x.1.cr, .int .i64 x.1.sch] 35 (0, 0))) := Lib.hid (by rw [hwa, hX]; exact heap_alloc_new wo _)
              have Hbo : Hid (Below wo.heap.size wo wa) := Lib.hid (by rw [hwa]; exact gBel)
              have hsa : X < wa.heap.size := by rw [hwa, hX]; simp
              rw [← hX]
              clear hwa hX c0 c1 c2 c3
              go_loopw [13, 61] (fun _ jv wr => ∃ j : Nat, j ≤ i ∧ jv = .int .i64 (j : Int) ∧ Below wa.heap.size wa wr) (fun _ jv _ => i - (intOf jv).toNat)
              case atStart => exact ⟨0, Nat.zero_le _, rfl, Below.refl _ _⟩
              case round =>
                obtain ⟨j, hj, rfl, hbi⟩ := hrel
                obtain ⟨wi, rfl⟩ : ∃ wi : World, wi = wr := ⟨_, rfl⟩
                have Hboi := Lib.hid (Hbo.out.trans (hbi.mono Hbo.out.size))
                have Hri := Lib.hid ((hbi.block X hsa).trans Hra.out)
                have Hbi := Lib.hid hbi
                clear hbi
                by_cases hji : j < i
                · have hji' : (j : Int) < (i : Int) := by omega
                  have hjl : j < L.length := by omega
                  obtain ⟨b', off', hbe, hbl', d0, d1, d2, d3, hSj⟩ := ((HA.out.below Hbw.out).below Hboi.out).at j hjl
                  injection hbe with hbe
                  injection hbe with e1 e2
                  subst e1 e2
                  have Hm := Lib.hid (Hmt.out j hji)
                  have HSxi := Lib.hid (HSx.out wi Hboi.out)
                  obtain ⟨z, hz⟩ : ∃ z, z = L[j] := ⟨_, rfl⟩
                  rw [← hz] at d0 d1 d2 d3 hSj Hm
                  have HM := Lib.hid (fun W (h : Below wi.heap.size wi W) => show Calls Tryz.prog 27 #[.agg #[.slice x.2.a x.1.rg.length x.2.c], .agg #[.slice z.2.a z.1.rg.length z.2.c]] W fun e w' => e = .returned (.bool false) ∧ Below W.heap.size W w' from by
                    have h1 := meets_any _ _ _ _ _ _ x.1.rg z.1.rg W (HSxi.out.below h) (hSj.below h)
                    rw [Hm.out] at h1
                    exact h1)
                  clear hSj hz
                  go_upto_region 24 with fail
                  obtain ⟨wb, hwb⟩ : ∃ wb : World, wb = wi.alloc (.cells #[.int .i64 z.1.pc, .slice z.2.a z.1.rg.length z.2.c, .int .i64 z.1.cr, .int .i64 z.1.sch] 35) := ⟨_, rfl⟩
                  rw [← hwb]
                  have hrb : wb.heap[wi.heap.size]? = some (.cells #[.int .i64 z.1.pc, .slice z.2.a z.1.rg.length z.2.c, .int .i64 z.1.cr, .int .i64 z.1.sch] 35 (0, 0)) := by rw [hwb]; exact heap_alloc_new wi _
                  have Hbb : Hid (Below wi.heap.size wi wb) := Lib.hid (by rw [hwb]; exact gBel)
                  have hsi : X < wi.heap.size := Nat.lt_of_lt_of_le hsa Hbi.out.size
                  have a1 := cell_of_row _ _ 1 _ _ _ ((Hbb.out.block X hsi).trans Hri.out)
                  have b1 := cell_of_row _ _ 1 _ _ _ hrb
                  clear hwb hrb d0 d1 d2 d3
                  go_wp2_with (first
                    | (go_at_call 27; refine (HM.out _ Hbb.out).mono ?_; rintro e w5 ⟨rfl, hb5⟩; have Hb5 := Lib.hid (Hbi.out.trans ((Hbb.out.trans (hb5.mono Hbb.out.size)).mono Hbi.out.size)); clear hb5)
                    | fail)
                  go_roundw
                  case rel => exact ⟨j + 1, by omega, by go_num, Hb5.out⟩
                  case measure => simp [intOf]; omega
                · have hji' : ¬ (j : Int) < (i : Int) := by omega
                  clear hj hji
                  go_wp2
                  go_roundw
                  case rel => exact ⟨i + 1, by omega, by go_num, Hbw.out.trans (Hboi.out.mono Hbw.out.size)⟩
                  case measure => simp [intOf]; omega
            · have hin' : ¬ (i : Int) < (n : Int) := by omega
              clear hi hin
              go_wp2
              go_ret
              exact ⟨rfl, Hbw.out⟩
theorem rotStart_any (A : Option Addr) (n c : Nat) (L : LL) (C : Option Addr) (k cc : Nat) (K : List Cp) (D : Option Addr) (h d : Nat) (l : RcL) (N : Int) (w : World) (hA : SlL w A n c L) (hL : LnsR k L) (hC : SlC w C k cc K) (hK : cropsB K) (hD : SlRc w D h d l) (hl : HyW (k : Int) (rcs l)) (hN : 2 ≤ N ∧ N ≤ 10) :
    Calls Tryz.prog 122 #[.slice A n c, .slice C k cc, .slice D h d, .int .i64 4, .int .i64 N, .int .i64 0] w fun e w' => e = .returned (.int .i64 0) ∧ Below w.heap.size w w' := by
  have hN1 : ¬ N < 2 := by omega
  have hN2 : ¬ 10 < N := by omega
  have HR := Lib.hid (rotCheck_any A n c L C k cc K w hA hL hC hK)
  have HL := Lib.hid (fun W (h' : Below w.heap.size w W) => listedW_any D h d l C k cc K W (hD.below h') hl (hC.below h') hK)
  clear hA hL hC hK hD hl
  go_enter Tryz.func122, Tryz.ntmps122
  go_wp2_with (first
    | (go_at_call 211; refine HR.out.mono ?_; rintro e w1 ⟨rfl, hb1⟩; have Hb1 := Lib.hid hb1; clear hb1)
    | (go_at_call 102; refine (HL.out _ Hb1.out).mono ?_; rintro e w2 ⟨rfl, hb2⟩; have Hb2 := Lib.hid (Hb1.out.trans (hb2.mono Hb1.out.size)); clear hb2)
    | fail)
  go_ret
  exact ⟨rfl, Hb2.out⟩
def mksK (K : List Cp) (c : Int) : Int := match K[c.toNat]? with | some x => x.mks | none => 0
theorem mksK_at (K : List Cp) (j : Nat) (h : j < K.length) : mksK K (j : Int) = K[j].mks := by
  unfold mksK
  rw [Int.toNat_natCast, List.getElem?_eq_getElem h]
def arK (K : List Cp) (c : Int) : Bool := decide (bits .and .i64 (mksK K c) 3 = 0)
def arL (K : List Cp) (L : LL) : LL := L.filter fun x => arK K x.1.cr
theorem arL_take (K : List Cp) (L : LL) (i : Nat) (h : i < L.length) : arL K (L.take (i + 1)) = arL K (L.take i) ++ (if arK K L[i].1.cr = true then [L[i]] else []) := by
  unfold arL
  rw [List.take_succ_eq_append_getElem h, List.filter_append, List.filter_cons, List.filter_nil]
theorem arL_len (K : List Cp) (L : LL) : (arL K L).length ≤ L.length := List.length_filter_le _ _
theorem arable_any (A : Option Addr) (n c : Nat) (L : LL) (C : Option Addr) (k cc : Nat) (K : List Cp) (w : World) (hA : SlL w A n c L) (hL : LnsR k L) (hC : SlC w C k cc K) :
    Calls Tryz.prog 212 #[.slice A n c, .slice C k cc] w fun e w' => ∃ v, e = .returned v ∧ w'.ownsRow w.heap.size 35 4 v (arL K L).length (lnCells (arL K L)) ∧ Below w.heap.size w w' := by
  obtain ⟨i2, hi2, hi2z, hl1, hl2⟩ := info_parts Tryz.infoLine
  have hn20 : n ≤ 20 := by have := hL.len; have := hA.len; omega
  have HA := Lib.hid hA
  have Hln := Lib.hid hA.len
  have HL := Lib.hid hL
  have HC := Lib.hid hC
  clear hA hL hC
  go_enter Tryz.func212, Tryz.ntmps212
  go_upto_region 3 with fail
  go_loopw [5, 7, 10] (fun ov _ iv wr => ∃ i : Nat, i ≤ n ∧ iv = .int .i64 (i : Int) ∧ wr.ownsRow w.heap.size 35 4 ov (arL K (L.take i)).length (lnCells (arL K (L.take i))) ∧ Below w.heap.size w wr) (fun _ _ iv _ => n - (intOf iv).toNat)
  case atStart => exact ⟨0, Nat.zero_le _, rfl, World.ownsRow_nil _ _ _ _, Below.refl _ _⟩
  case round =>
    obtain ⟨i, hi, rfl, hown, hbw⟩ := hrel
    obtain ⟨wo, rfl⟩ : ∃ wo : World, wo = wr := ⟨_, rfl⟩
    have Hown := Lib.hid hown
    have Hbw := Lib.hid hbw
    have hsw := hbw.size
    clear hown hbw
    by_cases hin : i < n
    · have hin' : (i : Int) < (n : Int) := by omega
      have hil : i < L.length := by rw [Hln.out]; exact hin
      obtain ⟨b, off, rfl, hbl, c0, c1, c2, c3, hS⟩ := (HA.out.below Hbw.out).at i hil
      have hcr := HL.out.cr L[i] (List.getElem_mem hil)
      have Hs := Lib.hid (arL_take K L i hil)
      have hPl : (arL K (L.take i)).length ≤ 20 := by
        have h1 := arL_len K (L.take i)
        rw [List.length_take] at h1; omega
      obtain ⟨x, hx⟩ : ∃ x, x = L[i] := ⟨_, rfl⟩
      rw [← hx] at c0 c1 c2 c3 hS hcr Hs
      clear hS hx
      obtain ⟨j, hj⟩ : ∃ j : Nat, x.1.cr = (j : Int) := ⟨x.1.cr.toNat, by omega⟩
      have hjK : j < K.length := by rw [HC.out.len]; omega
      have hjk : (j : Int) < (k : Int) := by omega
      obtain ⟨b2, off2, rfl, hbl2, d0, d1, d2⟩ := (HC.out.below Hbw.out).at j hjK
      have har : arK K x.1.cr = decide (bits .and .i64 K[j].mks 3 = 0) := by
        unfold arK
        rw [hj, mksK_at K j hjK]
      rw [har] at Hs
      obtain ⟨t, ht⟩ : ∃ t, t = x.1.cr := ⟨_, rfl⟩
      have Hj := Lib.hid hj
      have Ht := Lib.hid ht
      rw [hj] at c2
      clear hj har hcr ht
      have Hd2 := Lib.hid d2
      generalize K[j].mks = mk at *
      clear d0 d1 d2
      generalize arL K (L.take i) = P at *
      go_upto_region 5 with fail
      obtain ⟨wa, hwa⟩ : ∃ wa : World, wa = wo.alloc (.cells #[.int .i64 x.1.pc, .slice x.2.a x.1.rg.length x.2.c, .int .i64 (j : Int), .int .i64 x.1.sch] 35) := ⟨_, rfl⟩
      rw [← hwa]
      have hra : wa.heap[wo.heap.size]? = some (.cells #[.int .i64 x.1.pc, .slice x.2.a x.1.rg.length x.2.c, .int .i64 (j : Int), .int .i64 x.1.sch] 35 (0, 0)) := by rw [hwa]; exact heap_alloc_new wo _
      have Hba : Hid (Below wo.heap.size wo wa) := Lib.hid (by rw [hwa]; exact gBel)
      have hsa : wo.heap.size < wa.heap.size := by rw [hwa]; simp
      have a0 := cell_of_row _ _ 0 _ _ _ hra
      have a1 := cell_of_row _ _ 1 _ _ _ hra
      have a2 := cell_of_row _ _ 2 _ _ _ hra
      have a3 := cell_of_row _ _ 3 _ _ _ hra
      have d2 := (Hba.out.cell (p := ⟨b2, off2 + j * 3 + 2, none⟩) hbl2).trans Hd2.out
      have Hoa := Lib.hid (ownsRow_below Hown.out Hba.out)
      clear hwa hra c0 c1 c2 c3
      by_cases hq : bits .and .i64 mk 3 = 0
      · have hqd : decide (bits .and .i64 mk 3 = 0) = true := decide_eq_true hq
        rw [hqd] at Hs
        go_wp2_with (first
          | (at_builtin
             go_loud (refine wpList_append_any _ rfl (.tmp 22) (.tmp 24) _ rfl w.heap.size 35 i2 _ 4 48 Tryz.underlying25 hi2 hi2z hl1 hl2 rfl (by omega) _ P.length (lnCells P) rfl (ownsRow_below Hoa.out gBel) _ _ 1 1 [.int .i64 x.1.pc, .slice x.2.a x.1.rg.length x.2.c, .int .i64 (j : Int), .int .i64 x.1.sch] rfl ⟨rfl, fun _ => ⟨_, rfl, Nat.lt_succ_self _, fun j u hu => (by exact news_any _ _ _ j u hu)⟩⟩ (by simp [Value.oneCell']) (by simp only [maxLen]; omega) (by omega) (by simp; omega) ?_)
             intro v7 w7 hown7 hg7 hat7
             have Hn7 := Lib.hid hown7
             have Hg7 := Lib.hid hg7
             clear hown7 hg7 hat7)
          | fail)
        have hob := own_base Hoa.out
        have Hb7 : Hid (Below w.heap.size w w7) := Lib.hid (((Hbw.out.trans (Hba.out.mono hsw)).alloc (by omega) (.cells #[.int .i64 x.1.pc, .slice x.2.a x.1.rg.length x.2.c, .int .i64 (j : Int), .int .i64 x.1.sch] 35)).grown Hg7.out (by simp; omega) (fun g hg => by have := hob g hg; omega))
        clear hob
        go_roundw
        case rel => exact ⟨i + 1, by omega, by go_num, by rw [Hs.out, if_pos rfl, List.length_append, lnCells_snoc, Hj.out]; exact Hn7.out, Hb7.out⟩
        case measure => simp [intOf]; omega
      · have hqd : decide (bits .and .i64 mk 3 = 0) = false := decide_eq_false hq
        have hqb : (bits .and .i64 mk 3 == 0) = false := by simp [hq]
        rw [hqd] at Hs
        go_wp2
        go_roundw
        case rel => exact ⟨i + 1, by omega, by go_num, by rw [Hs.out, if_neg (by simp), List.append_nil]; exact Hoa.out, Hbw.out.trans (Hba.out.mono hsw)⟩
        case measure => simp [intOf]; omega
    · have hin' : ¬ (i : Int) < (n : Int) := by omega
      have Hend : Hid (L.take i = L) := Lib.hid (List.take_of_length_le (by rw [Hln.out]; omega))
      rw [Hend.out] at Hown
      go_wp2
      go_ret
      exact ⟨_, rfl, Hown.out, Hbw.out⟩
theorem rep3_fn (w : World) : BoolFn 213 #[] andB w := by
  intro W x y _
  show Calls Tryz.prog 213 #[.bool x, .bool y] W _
  cases x <;> cases y
  all_goals go_enter Tryz.func213, Tryz.ntmps213
  all_goals go_wp2
  all_goals go_ret
  all_goals exact ⟨rfl, gBel⟩
theorem repP_take (fam : Int → Int) (L : LL) (l : List Rc) (y0 : Int) (n : Nat) (i : Nat) (h : i < L.length) : repP fam (lns (L.take (i + 1))) l y0 n = repP fam (lns (L.take i)) l y0 n ++ chooseP andB L[i].1.rg (keptP l y0 (fun c => decide (fam c = fam L[i].1.cr)) n) := by
  unfold repP lns
  rw [List.take_succ_eq_append_getElem h, List.map_append, List.flatMap_append]
  simp
theorem repP_len {B : List Int} {nc : Int} {l : List Rc} (h : HyW nc l) (hB : B.length ≤ 2) (fam : Int → Int) (y0 : Int) (n : Nat) : ∀ {L : List Ln}, (∀ z ∈ L, RgB B z.rg) → (repP fam L l y0 n).length ≤ 90 * L.length
  | [], _ => by simp [repP]
  | z :: t, hL => by
    have h1 := repP_len h hB fam y0 n (L := t) fun x hx => hL x (List.mem_cons_of_mem _ hx)
    have h2 := ((hL z (by simp)).andB (kept_in h y0 (fun c => decide (fam c = fam z.cr)) n)).len
    have e : repP fam (z :: t) l y0 n = chooseP andB z.rg (keptP l y0 (fun c => decide (fam c = fam z.cr)) n) ++ repP fam t l y0 n := by simp [repP]
    rw [e, List.length_append, List.length_cons]
    omega
theorem SlL.ofRow {w : World} {base c : Nat} {A : Option Addr} {m : LL} (h : w.ownsRow base 35 4 (.slice A m.length c) m.length (lnCells m)) (hs : ∀ x ∈ m, SlR w x.2.a x.1.rg.length x.2.c x.1.rg) : SlL w A m.length c m := by
  obtain ⟨A', c', e, h1, h2, h3⟩ := own_slice h
  injection e with e1 e2 e3
  subst e1 e3
  exact ⟨rfl, h2, h3, h1, hs⟩
theorem repeated_any (A : Option Addr) (n c : Nat) (L : LL) (C : Option Addr) (k cc : Nat) (K : List Cp) (D : Option Addr) (h d : Nat) (l : RcL) (N : Nat) (t : Int) (B : List Int) (w : World) (hA : SlL w A n c L) (hL : LnsR k L) (hB : B.length ≤ 2) (hLb : ∀ x ∈ L, RgB B x.1.rg) (hC : SlC w C k cc K) (hk : k ≤ 8) (hD : SlRc w D h d l) (hh : h ≤ 100) (hl : HyW (k : Int) (rcs l)) (hN : 1 ≤ N ∧ N ≤ 3) (ht : t = (N : Int) + 1) :
    Calls Tryz.prog 123 #[.slice A n c, .slice C k cc, .slice D h d, .int .i64 4, .int .i64 t] w (RowPost w (repP (famK K) (lns (arL K L)) (rcs l) (4 - (N : Int)) (N - 1))) := by
  obtain ⟨i0, hi, hz0, hz1, hz2⟩ := info_parts Tryz.infoRect
  have HAr := Lib.hid (arable_any A n c L C k cc K w hA hL hC)
  have Hmem : Hid (∀ x ∈ arL K L, x ∈ L) := Lib.hid (fun x hx => (List.mem_filter.1 hx).1)
  have Hfit := Lib.hid (fun W (h' : Below w.heap.size w W) x (hx : x ∈ arL K L) => (hA.fits x (Hmem.out x hx)).below h')
  have HC := Lib.hid (fun W (h' : Below w.heap.size w W) => hC.below h')
  have hKlen := hC.len
  have Hcr := Lib.hid (fun x (hx : x ∈ arL K L) => hL.cr x (Hmem.out x hx))
  have Hrb := Lib.hid (fun x (hx : x ∈ arL K L) => hLb x (Hmem.out x hx))
  have Hlen : Hid ((arL K L).length ≤ 20) := Lib.hid (Nat.le_trans (arL_len K L) hL.len)
  obtain ⟨Y0, hY0⟩ : ∃ Y0, 4 - (N : Int) = Y0 := ⟨_, rfl⟩
  rw [hY0]
  have HK := Lib.hid (fun W (h' : Below w.heap.size w W) (f : Int) => show Calls Tryz.prog 125 #[.slice D h d, .slice C k cc, .int .i64 Y0, .int .i64 3, .int .i64 f] W (RowPost W (keptP (rcs l) Y0 (fun t => decide (famK K t = f)) (N - 1))) from by
    have h1 := keptW_any D h d l C k cc K Y0 f (N - 1) W (hD.below h') hl hh hk (hC.below h') (by omega) (by omega)
    rw [show Y0 + ((N - 1 : Nat) : Int) = 3 by omega] at h1
    exact h1)
  have Hkin := Lib.hid (fun f => kept_in hl Y0 (fun t => decide (famK K t = f)) (N - 1))
  have Hklen := Lib.hid (fun f => kept_len hl (by omega) Y0 (fun t => decide (famK K t = f)) (N - 1))
  have HB := Lib.hid hB
  obtain ⟨T1, hT1⟩ : ∃ T1, 4 - t = T1 := ⟨_, rfl⟩
  obtain ⟨T2, hT2⟩ : ∃ T2, t - 1 = T2 := ⟨_, rfl⟩
  have e1 : IntKind.i64.wrap (4 - t) = T1 := by rw [hT1]; exact IntWalk.i64_in _ (by omega)
  have e2 : IntKind.i64.wrap (t - 1) = T2 := by rw [hT2]; exact IntWalk.i64_in _ (by omega)
  have e3 : IntKind.i64.wrap (T1 + 1) = Y0 := by rw [IntWalk.i64_in _ (by omega)]; omega
  have e4 : ¬ 4 < T2 := by omega
  have HLr := Lib.hid (fun i => repP_len hl hB (famK K) Y0 (N - 1) (L := lns ((arL K L).take i)) (fun z hz => by
    obtain ⟨x, hx, rfl⟩ := List.mem_map.1 hz
    exact Hrb.out x (List.mem_of_mem_take hx)))
  clear hA hL hLb hC hD hl hY0 ht hT1 hT2 hB
  generalize arL K L = M at *
  go_enter Tryz.func123, Tryz.ntmps123
  go_upto_region 5 with (first
    | (go_at_call 212
       refine HAr.out.mono ?_
       rintro e w1 ⟨v1, rfl, hown1, hb1⟩
       obtain ⟨A1, c1, rfl, _, _, _⟩ := own_slice hown1
       have Hown1 := Lib.hid hown1
       have Hb1 := Lib.hid hb1
       clear hown1 hb1)
    | fail)
  have HSl := Lib.hid (SlL.ofRow Hown1.out (Hfit.out w1 Hb1.out))
  have hm20 := Hlen.out
  obtain ⟨m, hm⟩ : ∃ m, M.length = m := ⟨_, rfl⟩
  have Hm := Lib.hid hm
  rw [hm] at HSl hm20 ⊢
  clear hm Hown1
  go_loopw [11, 13, 14, 24] (fun ov _ _ iv wr => ∃ i : Nat, i ≤ m ∧ iv = .int .i64 (i : Int) ∧ wr.ownsRow w1.heap.size 68 4 ov (repP (famK K) (lns (M.take i)) (rcs l) Y0 (N - 1)).length (rCells (repP (famK K) (lns (M.take i)) (rcs l) Y0 (N - 1))) ∧ Below w1.heap.size w1 wr) (fun _ _ _ iv _ => m - (intOf iv).toNat)
  case atStart => exact ⟨0, Nat.zero_le _, rfl, by simpa [repP, lns, rCells] using World.ownsRow_nil _ _ _ _, Below.refl _ _⟩
  case round =>
    obtain ⟨i, hi', rfl, hown, hbw⟩ := hrel
    obtain ⟨wo, rfl⟩ : ∃ wo : World, wo = wr := ⟨_, rfl⟩
    have Hown := Lib.hid hown
    have Hbw := Lib.hid hbw
    have hsw := hbw.size
    clear hown hbw
    by_cases him : i < m
    · have him' : (i : Int) < (m : Int) := by omega
      have hil : i < M.length := by rw [Hm.out]; exact him
      obtain ⟨b, off, rfl, hbl, c0, c1', c2, c3, hS⟩ := (HSl.out.below Hbw.out).at i hil
      have hcr := Hcr.out M[i] (List.getElem_mem hil)
      have hrb := Hrb.out M[i] (List.getElem_mem hil)
      have hrl := hrb.len
      have hB2 := HB.out
      have Hs := Lib.hid (repP_take (famK K) M (rcs l) Y0 (N - 1) i hil)
      have hPl : (repP (famK K) (lns (M.take i)) (rcs l) Y0 (N - 1)).length ≤ 90 * 20 := by
        refine Nat.le_trans (HLr.out i) (Nat.mul_le_mul_left _ ?_)
        rw [lns_len, List.length_take]; omega
      obtain ⟨x, hx⟩ : ∃ x, x = M[i] := ⟨_, rfl⟩
      rw [← hx] at c0 c1' c2 c3 hS hcr Hs hrb hrl
      have HS := Lib.hid hS
      have Hrx := Lib.hid hrb
      have Hbo := Lib.hid (Hb1.out.trans (Hbw.out.mono Hb1.out.size))
      clear hS hx hrb
      obtain ⟨j, hj⟩ : ∃ j : Nat, x.1.cr = (j : Int) := ⟨x.1.cr.toNat, by omega⟩
      have hjK : j < K.length := by omega
      have hjk : (j : Int) < (k : Int) := by omega
      obtain ⟨b2, off2, rfl, hbl2, d0, d1, d2⟩ := (HC.out wo Hbo.out).at j hjK
      have hfm : famK K x.1.cr = K[j].fam := by rw [hj, famK_at K j hjK]
      rw [hfm] at Hs
      rw [hj] at c2
      have Hj := Lib.hid hj
      clear hj hcr hfm
      have Hd1 := Lib.hid d1
      generalize K[j].fam = F at *
      clear d0 d1 d2
      have HKo := Lib.hid (fun W (h' : Below wo.heap.size wo W) => HK.out W (Hbo.out.trans (h'.mono Hbo.out.size)) F)
      have Hki := Lib.hid (Hkin.out F)
      have hkl := Hklen.out F
      have hQl := (Hrx.out.andB Hki.out).len
      generalize repP (famK K) (lns (M.take i)) (rcs l) Y0 (N - 1) = P at *
      generalize keptP (rcs l) Y0 (fun t => decide (famK K t = F)) (N - 1) = Q at *
      have HCh := Lib.hid (fun W B' m' d' (h1 : SlR W x.2.a x.1.rg.length x.2.c x.1.rg) (h2 : SlR W B' m' d' Q) => choose_any x.2.a B' x.1.rg.length x.2.c m' d' 213 #[] andB x.1.rg Q W h1 h2 (by omega) (by have := h2.len; omega) Hrx.out.ins.pos Hki.out.pos (enters_of Tryz.func213 (by kernel_rfl) rfl) (rep3_fn W))
      generalize chooseP andB x.1.rg Q = Z at *
      go_upto_region 7 with fail
      obtain ⟨wa, hwa⟩ : ∃ wa : World, wa = wo.alloc (.cells #[.int .i64 x.1.pc, .slice x.2.a x.1.rg.length x.2.c, .int .i64 (j : Int), .int .i64 x.1.sch] 35) := ⟨_, rfl⟩
      rw [← hwa]
      obtain ⟨X, hX⟩ : ∃ X, X = wo.heap.size := ⟨_, rfl⟩
      have hra : wa.heap[X]? = some (.cells #[.int .i64 x.1.pc, .slice x.2.a x.1.rg.length x.2.c, .int .i64 (j : Int), .int .i64 x.1.sch] 35 (0, 0)) := by rw [hwa, hX]; exact heap_alloc_new wo _
      have Hra := Lib.hid hra
      have Hba : Hid (Below wo.heap.size wo wa) := Lib.hid (by rw [hwa]; exact gBel)
      have hsa : X < wa.heap.size := by rw [hwa, hX]; simp
      have hXo : X = wo.heap.size := hX
      rw [← hX]
      have a2 := cell_of_row _ _ 2 _ _ _ hra
      have d1 := (Hba.out.cell (p := ⟨b2, off2 + j * 3 + 1, none⟩) hbl2).trans Hd1.out
      have hXle : wo.heap.size ≤ X := by omega
      have hXge : X ≤ wo.heap.size := by omega
      clear hwa hra hX hXo c0 c1' c2 c3
      go_upto_region 9 with (first
        | (go_at_call 125
           refine (HKo.out _ Hba.out).mono ?_
           rintro e w3 ⟨v3, rfl, hown3, hb3⟩
           obtain ⟨A3, c3, rfl, hS3⟩ := SlR.of_own hown3
           have HS3 := Lib.hid hS3
           have hr3 := (hb3.block X hsa).trans Hra.out
           have b1 := cell_of_row _ _ 1 _ _ _ hr3
           have Hb3 := Lib.hid (Hba.out.trans (hb3.mono Hba.out.size))
           clear hown3 hb3 hS3 hr3 a2 d1)
        | (go_at_call 54
           refine (HCh.out _ _ _ _ (HS.out.below Hb3.out) HS3.out).mono ?_
           rintro e w4 ⟨v4, rfl, hown4, hb4⟩
           obtain ⟨A4, c4, rfl, hS4⟩ := SlR.of_own hown4
           have HS4 := Lib.hid hS4
           have Hb4 := Lib.hid (Hb3.out.trans (hb4.mono Hb3.out.size))
           clear hown4 hb4 hS4)
        | (at_builtin
           go_loud (refine wpList_append_any _ rfl (.tmp 43) (.tmp 48) _ rfl w1.heap.size 68 i0 _ 4 32 Tryz.underlying31 hi hz0 hz1 hz2 rfl (by omega) _ P.length (rCells P) rfl (ownsRow_below Hown.out Hb4.out) w4.heap.size A4 Z.length c4 (rCells Z) rfl HS4.out.rd4 (rCells_one _) (by simp only [maxLen]; omega) (by omega) (Nat.le_trans hsw Hb4.out.size) ?_)
           intro v5 w5 hown5 hg5 hat5
           have Hn5 := Lib.hid hown5
           have Hg5 := Lib.hid hg5
           clear hown5 hg5 hat5)
        | fail)
      have hob := own_base (ownsRow_below Hown.out Hb4.out)
      have Hb5 := Lib.hid ((Hbw.out.trans (Hb4.out.mono hsw)).grown Hg5.out (Nat.le_trans hsw Hb4.out.size) hob)
      clear hob
      go_wp2
      go_roundw
      case rel => exact ⟨i + 1, by omega, by go_num, by rw [Hs.out, List.length_append, rCells_app]; exact Hn5.out, Hb5.out⟩
      case measure => simp [intOf]; omega
    · have him' : ¬ (i : Int) < (m : Int) := by omega
      have Hend : Hid (M.take i = M) := Lib.hid (List.take_of_length_le (by rw [Hm.out]; omega))
      rw [Hend.out] at Hown
      go_wp2
      go_ret
      exact ⟨_, rfl, own_rebase Hown.out Hb1.out.size, Hb1.out.trans (Hbw.out.mono Hb1.out.size)⟩
theorem repeats_any (A : Option Addr) (n c : Nat) (L : LL) (C : Option Addr) (k cc : Nat) (K : List Cp) (D : Option Addr) (h d : Nat) (l : RcL) (N : Nat) (t : Int) (B : List Int) (w : World) (hA : SlL w A n c L) (hL : LnsR k L) (hB : B.length ≤ 2) (hLb : ∀ x ∈ L, RgB B x.1.rg) (hC : SlC w C k cc K) (hK : cropsB K) (hk : k ≤ 8) (hD : SlRc w D h d l) (hh : h ≤ 100) (hl : HyW (k : Int) (rcs l)) (hN : 1 ≤ N ∧ N ≤ 3) (ht : t = (N : Int) + 1) :
    Calls Tryz.prog 39 #[.slice A n c, .slice C k cc, .slice D h d, .int .i64 4, .int .i64 t] w (RegPost w (canonP (repP (famK K) (lns (arL K L)) (rcs l) (4 - (N : Int)) (N - 1)), 0)) := by
  have hlb : ∀ z ∈ lns (arL K L), RgB B z.rg := fun z hz => by
    obtain ⟨x, hx, rfl⟩ := List.mem_map.1 hz
    exact hLb x (List.mem_filter.1 hx).1
  have HS := Lib.hid (fun W (h' : Below w.heap.size w W) => rotStart_any A n c L C k cc K D h d l t W (hA.below h') hL (hC.below h') hK (hD.below h') hl (by omega))
  have HR := Lib.hid (fun W (h' : Below w.heap.size w W) => repeated_any A n c L C k cc K D h d l N t B W (hA.below h') hL hB hLb (hC.below h') hk (hD.below h') hh hl hN ht)
  have HJ := Lib.hid (fun B' q e W h' => joinedW (repP (famK K) (lns (arL K L)) (rcs l) (4 - (N : Int)) (N - 1)) (rep_in hl _ (fun z hz => (hlb z hz).ins) _ _) ⟨B, hB, fun u v huv => by
    obtain ⟨z, hz, h1⟩ := (rep_mem _ _ _ _ _ u v).1 huv
    exact ((hlb z hz).andB (kept_in hl _ _ _)).inb u v h1⟩ (Nat.le_trans (repP_len hl hB _ _ _ hlb) (by have h1 := arL_len K L; have h2 := hL.len; rw [lns_len]; omega)) B' q e W h')
  clear hA hL hLb hC hK hD hl hlb ht
  generalize repP (famK K) (lns (arL K L)) (rcs l) (4 - (N : Int)) (N - 1) = P at *
  generalize canonP P = R at *
  go_enter Tryz.func39, Tryz.ntmps39
  go_upto_region 1 with fail
  obtain ⟨w1, hw1⟩ : ∃ w1 : World, w1 = w.alloc (.cells #[.slice none 0 0] 33) := ⟨_, rfl⟩
  rw [← hw1]
  have Hz1 : Hid (w1.heap[w.heap.size]? = some (.cells #[.slice none 0 0] 33 (0, 0))) := Lib.hid (by rw [hw1]; exact heap_alloc_new w _)
  have Hb1 : Hid (Below w.heap.size w w1) := Lib.hid (by rw [hw1]; exact gBel)
  have hs1 : w.heap.size < w1.heap.size := by rw [hw1]; simp
  clear hw1
  go_wp2_with (first
    | (go_at_call 122
       refine (HS.out _ Hb1.out).mono ?_
       rintro e w2 ⟨rfl, hb2⟩
       have Hz2 := Lib.hid ((hb2.block w.heap.size (by omega)).trans Hz1.out)
       have Hb2 := Lib.hid (Hb1.out.trans (hb2.mono (by omega)))
       have hs2 : w.heap.size < w2.heap.size := Nat.lt_of_lt_of_le hs1 hb2.size
       clear hb2)
    | (go_at_call 123
       refine (HR.out _ Hb2.out).mono ?_
       rintro e w3 ⟨v3, rfl, hown3, hb3⟩
       obtain ⟨B3, c3, rfl, hS3⟩ := SlR.of_own hown3
       have HS3 := Lib.hid hS3
       have Hz3 := Lib.hid ((hb3.block w.heap.size (by omega)).trans Hz2.out)
       have Hb3 := Lib.hid (Hb2.out.trans (hb3.mono (by omega)))
       have hs3 : w.heap.size < w3.heap.size := Nat.lt_of_lt_of_le hs2 hb3.size
       clear hown3 hb3 hS3)
    | (go_at_call 76
       refine (HJ.out _ _ _ _ HS3.out).mono ?_
       rintro e w4 ⟨v4, rfl, hown4, hb4⟩
       dsimp only at hown4
       obtain ⟨A4, c4, rfl, _, _, _⟩ := own_slice hown4
       have Hown4 := Lib.hid (own_rebase (base' := w.heap.size + 1) hown4 (by omega))
       have hz4 := (hb4.block w.heap.size (by omega)).trans Hz3.out
       have Hb4 := Lib.hid (Hb3.out.trans (hb4.mono (by omega)))
       have z0 := cell_of_row _ _ 0 _ _ _ hz4
       have f0 := frozen_of_row _ _ 0 _ _ hz4
       have csame : (w4.setCell ⟨w.heap.size, 0, none⟩ (.slice A4 R.length c4)).cell? ⟨w.heap.size, 0, none⟩ = some (.slice A4 R.length c4) := by
         rw [cell_of_row _ w.heap.size 0 _ _ _ (heap_setCell_same w4 w.heap.size 0 _ _ _ hz4)]
         simp
       clear hown4 hb4 hz4)
    | fail)
  refine bodyPost_ret (v := .tuple #[.agg #[.slice A4 R.length c4], .int .i64 0]) (by simp [results, Tryz.results39, go_sem, *]) rfl ?_
  refine ⟨_, rfl, ?_, Hb4.out.setCell (Nat.le_refl _) _⟩
  exact own_other (own_rebase Hown4.out (by omega)) (only_setCell (g := w.heap.size) (World.grownBy.refl _ _) (.inl rfl) _) (fun k hk e => by injection e with e; have := own_base Hown4.out k hk; omega)
end Go.Proofs.YtfmkmhhghmdakaaGreatDoor
