/- OutlineBorder: the walk. -/
import Derived.Test.YtpcfhcdbibklcaaGreatGM2
import Derived.Test.YtpcfhcdbibklcaaGreatV4
import Derived.Test.YtpcfhcdbibklcaaGreatF5
namespace Go.Proofs.YtpcfhcdbibklcaaGreat
open Go.RowKit Go.Shelf
set_option linter.unusedVariables false
set_option linter.unusedSimpArgs false

/-- The borders of a square. -/
def B4 (P : Sq) (x y : Int) : Int := ind (P x y && !P (x + 1) y) + ind (P x y && !P (x - 1) y) + ind (P x y && !P x (y + 1)) + ind (P x y && !P x (y - 1))
theorem ind_01 (b : Bool) : 0 ≤ ind b ∧ ind b ≤ 1 := by cases b <;> decide
theorem sumI_le (g : Int → Int) (k : Int) (hk : 0 ≤ k) : ∀ (n : Nat) (lo : Int), (∀ x, 0 ≤ g x ∧ g x ≤ k) → 0 ≤ sumI g lo n ∧ sumI g lo n ≤ n * k
  | 0, lo, _ => by simp [sumI]
  | n + 1, lo, h => by
    obtain ⟨h1, h2⟩ := sumI_le g k hk n (lo + 1) h
    have h3 := h lo
    simp only [sumI]
    rw [show ((n + 1 : Nat) : Int) = (n : Int) + 1 from by omega, Int.add_mul]
    omega
/-- The borders of all squares. -/
theorem border_law (P : Sq) (h : Grid P 8) : sumI (fun x => sumI (fun y => B4 P x y) 0 9) 0 9 = bordT P 8 := by
  have h0 : ∀ x y, (x = 8 ∨ y = 8) → B4 P x y = 0 := fun x y hxy => by
    unfold B4
    rw [h.out x y (by omega)]
    rfl
  have e1 : sumI (fun x => sumI (fun y => B4 P x y) 0 9) 0 9 = sumI (fun x => sumI (fun y => B4 P x y) 0 8) 0 8 := by
    rw [sumI_snoc (fun x => sumI (fun y => B4 P x y) 0 9) 0 8, sumI_congr _ (fun x => sumI (fun y => B4 P x y) 0 8) 8 0 fun x _ _ => by rw [sumI_snoc (fun y => B4 P x y) 0 8, h0 _ _ (.inr (by decide))]; omega]
    rw [sumI_const _ 0 9 0 fun y _ _ => h0 _ _ (.inl (by decide))]
    simp
  rw [e1, sumI_swap (fun y x => B4 P x y) 8 0 8 0]
  unfold bordT all2 B4 D1 D2 D3 D4
  simp only [sumI_plus]
  omega
theorem arrI : Tryz.prog.underlying 30 = some (.array 2 3) := by kernel_rfl
set_option maxHeartbeats 8000000 in
set_option maxRecDepth 100000 in
theorem borderLaw (A0 : Option Addr) (n0 c0 : Nat) (zs : List Int) (w : World) (hn : zs.length = n0) (hc : n0 ≤ c0) (hm : c0 ≤ maxLen) (hw : ∀ z ∈ zs, (Lit.int .i64 z).wf = true) (hA : Lies w A0 n0 (zs.map (.int .i64))) :
    Calls Tryz.prog 3 #[.slice A0 n0 c0] w fun e w' => e = .returned (.bool true) ∧ Below w.heap.size w w' := by
  have HN := Lib.hid (new_any A0 n0 c0 zs w hn hc hm hw hA)
  have HAw := Lib.hid (fun W => awake05_any W)
  clear hn hw hA
  go_enter Tryz.func3, Tryz.ntmps3
  go_upto_region 2 with (first
    | (go_at_call 8
       refine HN.out.mono ?_
       rintro e w0 ⟨g, rfl, hg, ht, hb0⟩
       have HT0 := Lib.hid ht
       have Hb0 := Lib.hid hb0
       clear ht hb0)
    | (go_at_call 9
       refine (region_any g _ 8 4 _ HT0.out (by omega) (by omega)).mono ?_
       rintro e w1 ⟨v1, rfl, hown1, -, hg1⟩
       obtain ⟨hreg⟩ : Nonempty (Reg (8 : Nat) 28 (mkReg (zs.take 400) 8 4).1) := ⟨by have := mkReg_reg (zs.take 400) 8 4 (by omega) (by omega) (by omega) (by omega); exact this⟩
       obtain ⟨C, cc, rfl, hC⟩ := SlR.of_own hown1
       obtain ⟨l, hl⟩ : ∃ l, (mkReg (zs.take 400) 8 4).1 = l := ⟨_, rfl⟩
       rw [hl] at hC hreg
       rw [hl]
       obtain ⟨m, hm2⟩ : ∃ m, l.length = m := ⟨_, rfl⟩
       rw [hm2] at hC
       rw [hm2]
       have HC := Lib.hid hC
       have Hreg := Lib.hid hreg
       have Hb1 : Hid (Below w.heap.size w w1) := Lib.hid (below_only Hb0.out hg1 hg Hb0.out.size)
       have hs1 := Hb1.out.size
       clear hown1 hg1 hl hC hreg hm2)
    | fail)
  have Hhas : Hid (∀ x y, hasP l x y = inL l x y) := Lib.hid fun x y => by unfold hasP; rw [Hreg.out.valid (by omega) (by omega)]; rfl
  have HB := Lib.hid (fun W (h : SlR W C m cc l) => bordO_any C m cc l W h)
  have Hbv : Hid (bordV l = (bordT (inL l) 8, 0)) := Lib.hid (by unfold bordV; rw [Hreg.out.valid (by omega) (by omega), bordP_true l 8 (by omega) Hreg.out.ins]; rfl)
  rw [Hbv.out] at HB
  have HH := Lib.hid (fun x y W (h : SlR W C m cc l) => hasR_any C m cc l x y W h)
  have Hlaw : Hid (sumI (fun x => sumI (fun y => B4 (inL l) x y) 0 9) 0 9 = bordT (inL l) 8) := Lib.hid (border_law _ (inL_grid Hreg.out.ins))
  have HT : Hid (∀ k, sumI (fun x => sumI (fun y => B4 (inL l) x y) 0 9) 0 (k + 1) = sumI (fun x => sumI (fun y => B4 (inL l) x y) 0 9) 0 k + sumI (fun y => B4 (inL l) k y) 0 9) := Lib.hid fun k => by rw [sumI_snoc]; simp
  have HU : Hid (∀ (k : Int) (j : Nat), sumI (fun y => B4 (inL l) k y) 0 (j + 1) = sumI (fun y => B4 (inL l) k y) 0 j + B4 (inL l) k j) := Lib.hid fun k j => by rw [sumI_snoc]; simp
  have HQ : Hid (∀ x y, hasP l x y = false → B4 (inL l) x y = 0) := Lib.hid fun x y h => by rw [Hhas.out] at h; unfold B4; rw [h]; rfl
  have HP : Hid (∀ x y, hasP l x y = true → B4 (inL l) x y = ind (!hasP l (x + 1) y) + ind (!hasP l (x + -1) y) + ind (!hasP l x (y + 1)) + ind (!hasP l x (y + -1))) := Lib.hid fun x y h => by
    rw [Hhas.out] at h
    simp only [Hhas.out]
    unfold B4
    rw [h]
    rfl
  obtain ⟨T, hT⟩ : ∃ T : Nat → Int, T = fun k => sumI (fun x => sumI (fun y => B4 (inL l) x y) 0 9) 0 k := ⟨_, rfl⟩
  obtain ⟨U, hU⟩ : ∃ U : Int → Nat → Int, U = fun k j => sumI (fun y => B4 (inL l) k y) 0 j := ⟨_, rfl⟩
  obtain ⟨Q, hQ⟩ : ∃ Q : Int → Int → Int, Q = fun x y => B4 (inL l) x y := ⟨_, rfl⟩
  have HT' : Hid (∀ k : Nat, T (k + 1) = T k + U k 9) := Lib.hid fun k => by rw [hT, hU]; exact HT.out k
  have HU' : Hid (∀ (k : Int) (j : Nat), U k (j + 1) = U k j + Q k j) := Lib.hid fun k j => by rw [hU, hQ]; exact HU.out k j
  have HQ' : Hid (∀ x y, hasP l x y = false → Q x y = 0) := Lib.hid fun x y h => by rw [hQ]; exact HQ.out x y h
  have HP' : Hid (∀ x y, hasP l x y = true → Q x y = ind (!hasP l (x + 1) y) + ind (!hasP l (x + -1) y) + ind (!hasP l x (y + 1)) + ind (!hasP l x (y + -1))) := Lib.hid fun x y h => by rw [hQ]; exact HP.out x y h
  have HT0' : Hid (T 0 = 0 ∧ ∀ k, U k 0 = 0) := Lib.hid ⟨by rw [hT]; rfl, fun k => by rw [hU]; rfl⟩
  have HT9 : Hid (T 9 = bordT (inL l) 8) := Lib.hid (by rw [hT]; exact Hlaw.out)
  clear HT HU HQ HP hT hU hQ Hhas Hbv HN Hb0 HT0 Hreg
  clear Hlaw
  generalize hasP l = hs at *
  generalize bordT (inL l) 8 = TT at *
  obtain ⟨w2, hw2⟩ : ∃ w2 : World, w2 = w1.alloc (.cells #[.slice C m cc] 25) := ⟨_, rfl⟩
  rw [← hw2]
  have hr2 : w2.heap[w1.heap.size]? = some (.cells #[.slice C m cc] 25 (0, 0)) := by rw [hw2]; exact heap_alloc_new w1 _
  have c2 := cell_of_row w2 w1.heap.size 0 _ _ _ hr2
  have HC2 : Hid (SlR w2 C m cc l) := Lib.hid (by rw [hw2]; exact HC.out.below (by repeat' (first | with_reducible exact Below.refl _ _ | with_reducible refine below_drewN ?_ _ | with_reducible refine Below.drew ?_ | with_reducible refine Below.alloc ?_ ?_ _ | with_reducible refine Below.setCell ?_ ?_ _ | with_reducible refine Below.trans ?_ (Below.mono (by with_reducible assumption) ?_) | (simp; done) | (simp; omega) | omega)))
  have Hb2 : Hid (Below w.heap.size w w2) := Lib.hid (by rw [hw2]; exact Hb1.out.alloc hs1 _)
  have hs2 : w1.heap.size < w2.heap.size := by rw [hw2]; simp
  clear hw2 hr2 HC Hb1
  generalize w1.heap.size = G at *
  go_wp2
  go_loopw [4, 5] (fun nv xv wr => ∃ (k : Nat) (N : Int), k ≤ 9 ∧ xv = .int .i64 (k : Int) ∧ nv = .int .i64 N ∧ Hid (N = T k) ∧ 0 ≤ N ∧ N ≤ 36 * k ∧ Below w2.heap.size w2 wr) (fun _ xv _ => 9 - (intOf xv).toNat)
  case atStart => exact ⟨0, 0, Nat.zero_le _, rfl, rfl, Lib.hid HT0'.out.1.symm, Int.le_refl _, Int.le_refl _, Below.refl _ _⟩
  case round =>
    obtain ⟨k, N, hk, rfl, rfl, HN, hN0, hN1, hbr⟩ := hrel
    have Hbr := Lib.hid hbr
    clear hbr
    by_cases hk9 : k < 9
    · have hk9' : (k : Int) < 9 := by omega
      have hkw : wrap64 ((k : Int) + 1) = (k : Int) + 1 := by unfold wrap64; omega
      obtain ⟨wo, hwo⟩ : ∃ wo : World, wo = wr := ⟨_, rfl⟩
      rw [← hwo] at Hbr ⊢
      clear hwo
      have hwk1 : IntKind.i64.wrap ((k : Int) + 1) = (k : Int) + 1 := IntWalk.i64_in _ (by omega)
      have hwk2 : IntKind.i64.wrap ((k : Int) + -1) = (k : Int) + -1 := IntWalk.i64_in _ (by omega)
      have hwk0 : IntKind.i64.wrap (k : Int) = (k : Int) := IntWalk.i64_in _ (by omega)
      go_wp2
      go_loopw [4, 6] (fun nv yv wr => ∃ (j : Nat) (N2 : Int), j ≤ 9 ∧ yv = .int .i64 (j : Int) ∧ nv = .int .i64 N2 ∧ Hid (N2 = N + U k j) ∧ 0 ≤ N2 ∧ N2 ≤ 36 * k + 4 * j ∧ Below w2.heap.size w2 wr) (fun _ yv _ => 9 - (intOf yv).toNat)
      case atStart => exact ⟨0, N, Nat.zero_le _, rfl, rfl, Lib.hid (by rw [HT0'.out.2]; omega), hN0, by omega, Hbr.out⟩
      case round =>
        obtain ⟨j, N2, hj, rfl, rfl, HN2, hN20, hN21, hbr2⟩ := hrel
        have c3 := (hbr2.cell (p := ⟨G, 0, none⟩) hs2).trans c2
        have HC3 := Lib.hid (HC2.out.below hbr2)
        have Hbr2 := Lib.hid hbr2
        have hs3 := hbr2.size
        clear hbr2
        by_cases hj9 : j < 9
        · have hj9' : (j : Int) < 9 := by omega
          have HH0 := Lib.hid (HH.out k j)
          have Hst := HU'.out k j
          cases hq : hs k j with
          | false =>
            rw [hq] at HH0
            rw [HQ'.out _ _ hq] at Hst
            have Hst2 := Lib.hid Hst
            clear hq Hst
            go_wp2_with (first
              | (go_at_call 10
                 refine (HH0.out _ HC3.out).mono ?_
                 rintro e w4 ⟨rfl, hb4⟩
                 have Hb4 : Hid (Below w2.heap.size w2 w4) := Lib.hid (Hbr2.out.trans (hb4.mono hs3))
                 clear hb4 c3)
              | fail)
            go_roundw
            case rel => exact ⟨j + 1, N2, by omega, by go_num, rfl, Lib.hid (by rw [Hst2.out, HN2.out]; omega), hN20, by omega, Hb4.out⟩
            case measure => simp [intOf]; omega
          | true =>
            rw [hq] at HH0
            rw [HP'.out _ _ hq] at Hst
            have Hst2 := Lib.hid Hst
            clear hq Hst
            go_upto_region 10 with (first
              | (go_at_call 10
                 refine (HH0.out _ HC3.out).mono ?_
                 rintro e w4 ⟨rfl, hb4⟩
                 have Hb4 : Hid (Below w2.heap.size w2 w4) := Lib.hid (Hbr2.out.trans (hb4.mono hs3))
                 clear hb4 c3)
              | fail)
            go_upto_region 11 with fail
            obtain ⟨w5, hw5⟩ : ∃ w5 : World, w5 = w4.alloc (.cells #[.int .i64 1, .int .i64 0, .int .i64 (-1), .int .i64 0, .int .i64 0, .int .i64 1, .int .i64 0, .int .i64 (-1)] 30) := ⟨_, rfl⟩
            rw [← hw5]
            have hr5 : w5.heap[w4.heap.size]? = some (.cells #[.int .i64 1, .int .i64 0, .int .i64 (-1), .int .i64 0, .int .i64 0, .int .i64 1, .int .i64 0, .int .i64 (-1)] 30 (0, 0)) := by rw [hw5]; exact heap_alloc_new w4 _
            have Hr5 := Lib.hid hr5
            have hs4 := Hb4.out.size
            have Hb5 : Hid (Below w2.heap.size w2 w5) := Lib.hid (by rw [hw5]; exact Hb4.out.alloc hs4 _)
            have HC5 := Lib.hid (HC2.out.below Hb5.out)
            have c5 := (Hb5.out.cell (p := ⟨G, 0, none⟩) hs2).trans c2
            have hs5 := Hb5.out.size
            have hd5 : w4.heap.size < w5.heap.size := by rw [hw5]; simp
            clear hw5 hr5
            generalize w4.heap.size = D at *
            obtain ⟨S, hS⟩ : ∃ S : Nat → Int, S = fun t => [0, ind (!hs ((k : Int) + 1) j), ind (!hs ((k : Int) + 1) j) + ind (!hs ((k : Int) + -1) j), ind (!hs ((k : Int) + 1) j) + ind (!hs ((k : Int) + -1) j) + ind (!hs k ((j : Int) + 1)), ind (!hs ((k : Int) + 1) j) + ind (!hs ((k : Int) + -1) j) + ind (!hs k ((j : Int) + 1)) + ind (!hs k ((j : Int) + -1))].getD t 0 := ⟨_, rfl⟩
            have HS : Hid (S 0 = 0 ∧ S 1 = S 0 + ind (!hs ((k : Int) + 1) j) ∧ S 2 = S 1 + ind (!hs ((k : Int) + -1) j) ∧ S 3 = S 2 + ind (!hs k ((j : Int) + 1)) ∧ S 4 = S 3 + ind (!hs k ((j : Int) + -1))) := Lib.hid (by rw [hS]; simp)
            have HS4 : Hid (U k (j + 1) = U k j + S 4) := Lib.hid (by rw [Hst2.out, hS]; simp)
            clear hS Hst2
            have hwj1 : IntKind.i64.wrap ((j : Int) + 1) = (j : Int) + 1 := IntWalk.i64_in _ (by omega)
            have hwj2 : IntKind.i64.wrap ((j : Int) + -1) = (j : Int) + -1 := IntWalk.i64_in _ (by omega)
            have hwj0 : IntKind.i64.wrap (j : Int) = (j : Int) := IntWalk.i64_in _ (by omega)
            go_wp2
            go_loopw [4, 33] (fun nv tv wr => ∃ (t : Nat) (N3 : Int), t ≤ 4 ∧ tv = .int .i64 (t : Int) ∧ nv = .int .i64 N3 ∧ Hid (N3 = N2 + S t) ∧ N2 ≤ N3 ∧ N3 ≤ N2 + t ∧ Below w5.heap.size w5 wr) (fun _ tv _ => 4 - (intOf tv).toNat)
            case atStart => exact ⟨0, N2, Nat.zero_le _, rfl, rfl, Lib.hid (by rw [HS.out.1]; omega), Int.le_refl _, by omega, Below.refl _ _⟩
            case round =>
              obtain ⟨t, N3, ht, rfl, rfl, HN3, hN30, hN31, hbt⟩ := hrel
              have c6 := (hbt.cell (p := ⟨G, 0, none⟩) (by show G < _; omega)).trans c5
              have hr6 := (hbt.block D hd5).trans Hr5.out
              have hst := hbt.size
              have Hbt := Lib.hid hbt
              clear hbt
              have hwN : IntKind.i64.wrap (N3 + 1) = N3 + 1 := IntWalk.i64_in _ (by omega)
              by_cases ht4 : t < 4
              · have b0 := cell_of_row _ D 0 _ _ _ hr6
                have b1 := cell_of_row _ D 1 _ _ _ hr6
                have b2 := cell_of_row _ D 2 _ _ _ hr6
                have b3 := cell_of_row _ D 3 _ _ _ hr6
                have b4 := cell_of_row _ D 4 _ _ _ hr6
                have b5 := cell_of_row _ D 5 _ _ _ hr6
                have b6 := cell_of_row _ D 6 _ _ _ hr6
                have b7 := cell_of_row _ D 7 _ _ _ hr6
                clear hr6
                obtain ⟨wt, hwt⟩ : ∃ wt : World, wt = wr := ⟨_, rfl⟩
                rw [← hwt] at Hbt hst c6 b0 b1 b2 b3 b4 b5 b6 b7 ⊢
                clear hwt
                have hGt : G < wt.heap.size := by omega
                have hDt : D < wt.heap.size := by omega
                rcases (show t = 0 ∨ t = 1 ∨ t = 2 ∨ t = 3 by omega) with rfl | rfl | rfl | rfl
                · cases hq : hs ((k : Int) + 1) j with
                  | false =>
                    have HHt := Lib.hid (HH.out ((k : Int) + 1) j)
                    rw [hq] at HHt
                    have Hs2 : Hid (S 1 = S 0 + 1) := Lib.hid (by rw [HS.out.2.1, hq]; rfl)
                    clear hq
                    go_wp2_with (first
                      | (go_at_call 10
                         refine (HHt.out _ ((HC5.out.below Hbt.out).below (by repeat' (first | with_reducible exact Below.refl _ _ | with_reducible refine below_drewN ?_ _ | with_reducible refine Below.drew ?_ | with_reducible refine Below.alloc ?_ ?_ _ | with_reducible refine Below.setCell ?_ ?_ _ | with_reducible refine Below.trans ?_ (Below.mono (by with_reducible assumption) ?_) | (simp; done) | (simp; omega) | omega)))).mono ?_
                         rintro e w7 ⟨rfl, hb7⟩
                         have Hb7 : Hid (Below w5.heap.size w5 w7) := Lib.hid (by have hbq := hb7; exact Hbt.out.trans (Below.mono (B := wt.heap.size) (by repeat' (first | with_reducible exact Below.refl _ _ | with_reducible assumption | with_reducible refine below_drewN ?_ _ | with_reducible refine Below.drew ?_ | with_reducible refine Below.alloc ?_ ?_ _ | with_reducible refine Below.setCell ?_ ?_ _ | with_reducible refine Below.trans ?_ (Below.mono (by with_reducible assumption) ?_) | with_reducible refine below_only ?_ (by with_reducible assumption) ?_ ?_ | (simp; done) | (simp; omega) | omega)) hst))
                         clear hb7)
                      | fail)
                    go_roundw
                    case rel => exact ⟨1, N3 + 1, by omega, by go_num, rfl, Lib.hid (by rw [HN3.out, Hs2.out]; omega), by omega, by omega, Hb7.out⟩
                    case measure => simp [intOf]
                  | true =>
                    have HHt := Lib.hid (HH.out ((k : Int) + 1) j)
                    rw [hq] at HHt
                    have Hs2 : Hid (S 1 = S 0) := Lib.hid (by rw [HS.out.2.1, hq]; simp [ind])
                    clear hq
                    go_wp2_with (first
                      | (go_at_call 10
                         refine (HHt.out _ ((HC5.out.below Hbt.out).below (by repeat' (first | with_reducible exact Below.refl _ _ | with_reducible refine below_drewN ?_ _ | with_reducible refine Below.drew ?_ | with_reducible refine Below.alloc ?_ ?_ _ | with_reducible refine Below.setCell ?_ ?_ _ | with_reducible refine Below.trans ?_ (Below.mono (by with_reducible assumption) ?_) | (simp; done) | (simp; omega) | omega)))).mono ?_
                         rintro e w7 ⟨rfl, hb7⟩
                         have Hb7 : Hid (Below w5.heap.size w5 w7) := Lib.hid (by have hbq := hb7; exact Hbt.out.trans (Below.mono (B := wt.heap.size) (by repeat' (first | with_reducible exact Below.refl _ _ | with_reducible assumption | with_reducible refine below_drewN ?_ _ | with_reducible refine Below.drew ?_ | with_reducible refine Below.alloc ?_ ?_ _ | with_reducible refine Below.setCell ?_ ?_ _ | with_reducible refine Below.trans ?_ (Below.mono (by with_reducible assumption) ?_) | with_reducible refine below_only ?_ (by with_reducible assumption) ?_ ?_ | (simp; done) | (simp; omega) | omega)) hst))
                         clear hb7)
                      | fail)
                    go_roundw
                    case rel => exact ⟨1, N3, by omega, by go_num, rfl, Lib.hid (by rw [HN3.out, Hs2.out]), by omega, by omega, Hb7.out⟩
                    case measure => simp [intOf]
                · cases hq : hs ((k : Int) + -1) j with
                  | false =>
                    have HHt := Lib.hid (HH.out ((k : Int) + -1) j)
                    rw [hq] at HHt
                    have Hs2 : Hid (S 2 = S 1 + 1) := Lib.hid (by rw [HS.out.2.2.1, hq]; rfl)
                    clear hq
                    go_wp2_with (first
                      | (go_at_call 10
                         refine (HHt.out _ ((HC5.out.below Hbt.out).below (by repeat' (first | with_reducible exact Below.refl _ _ | with_reducible refine below_drewN ?_ _ | with_reducible refine Below.drew ?_ | with_reducible refine Below.alloc ?_ ?_ _ | with_reducible refine Below.setCell ?_ ?_ _ | with_reducible refine Below.trans ?_ (Below.mono (by with_reducible assumption) ?_) | (simp; done) | (simp; omega) | omega)))).mono ?_
                         rintro e w7 ⟨rfl, hb7⟩
                         have Hb7 : Hid (Below w5.heap.size w5 w7) := Lib.hid (by have hbq := hb7; exact Hbt.out.trans (Below.mono (B := wt.heap.size) (by repeat' (first | with_reducible exact Below.refl _ _ | with_reducible assumption | with_reducible refine below_drewN ?_ _ | with_reducible refine Below.drew ?_ | with_reducible refine Below.alloc ?_ ?_ _ | with_reducible refine Below.setCell ?_ ?_ _ | with_reducible refine Below.trans ?_ (Below.mono (by with_reducible assumption) ?_) | with_reducible refine below_only ?_ (by with_reducible assumption) ?_ ?_ | (simp; done) | (simp; omega) | omega)) hst))
                         clear hb7)
                      | fail)
                    go_roundw
                    case rel => exact ⟨2, N3 + 1, by omega, by go_num, rfl, Lib.hid (by rw [HN3.out, Hs2.out]; omega), by omega, by omega, Hb7.out⟩
                    case measure => simp [intOf]
                  | true =>
                    have HHt := Lib.hid (HH.out ((k : Int) + -1) j)
                    rw [hq] at HHt
                    have Hs2 : Hid (S 2 = S 1) := Lib.hid (by rw [HS.out.2.2.1, hq]; simp [ind])
                    clear hq
                    go_wp2_with (first
                      | (go_at_call 10
                         refine (HHt.out _ ((HC5.out.below Hbt.out).below (by repeat' (first | with_reducible exact Below.refl _ _ | with_reducible refine below_drewN ?_ _ | with_reducible refine Below.drew ?_ | with_reducible refine Below.alloc ?_ ?_ _ | with_reducible refine Below.setCell ?_ ?_ _ | with_reducible refine Below.trans ?_ (Below.mono (by with_reducible assumption) ?_) | (simp; done) | (simp; omega) | omega)))).mono ?_
                         rintro e w7 ⟨rfl, hb7⟩
                         have Hb7 : Hid (Below w5.heap.size w5 w7) := Lib.hid (by have hbq := hb7; exact Hbt.out.trans (Below.mono (B := wt.heap.size) (by repeat' (first | with_reducible exact Below.refl _ _ | with_reducible assumption | with_reducible refine below_drewN ?_ _ | with_reducible refine Below.drew ?_ | with_reducible refine Below.alloc ?_ ?_ _ | with_reducible refine Below.setCell ?_ ?_ _ | with_reducible refine Below.trans ?_ (Below.mono (by with_reducible assumption) ?_) | with_reducible refine below_only ?_ (by with_reducible assumption) ?_ ?_ | (simp; done) | (simp; omega) | omega)) hst))
                         clear hb7)
                      | fail)
                    go_roundw
                    case rel => exact ⟨2, N3, by omega, by go_num, rfl, Lib.hid (by rw [HN3.out, Hs2.out]), by omega, by omega, Hb7.out⟩
                    case measure => simp [intOf]
                · cases hq : hs k ((j : Int) + 1) with
                  | false =>
                    have HHt := Lib.hid (HH.out k ((j : Int) + 1))
                    rw [hq] at HHt
                    have Hs2 : Hid (S 3 = S 2 + 1) := Lib.hid (by rw [HS.out.2.2.2.1, hq]; rfl)
                    clear hq
                    go_wp2_with (first
                      | (go_at_call 10
                         refine (HHt.out _ ((HC5.out.below Hbt.out).below (by repeat' (first | with_reducible exact Below.refl _ _ | with_reducible refine below_drewN ?_ _ | with_reducible refine Below.drew ?_ | with_reducible refine Below.alloc ?_ ?_ _ | with_reducible refine Below.setCell ?_ ?_ _ | with_reducible refine Below.trans ?_ (Below.mono (by with_reducible assumption) ?_) | (simp; done) | (simp; omega) | omega)))).mono ?_
                         rintro e w7 ⟨rfl, hb7⟩
                         have Hb7 : Hid (Below w5.heap.size w5 w7) := Lib.hid (by have hbq := hb7; exact Hbt.out.trans (Below.mono (B := wt.heap.size) (by repeat' (first | with_reducible exact Below.refl _ _ | with_reducible assumption | with_reducible refine below_drewN ?_ _ | with_reducible refine Below.drew ?_ | with_reducible refine Below.alloc ?_ ?_ _ | with_reducible refine Below.setCell ?_ ?_ _ | with_reducible refine Below.trans ?_ (Below.mono (by with_reducible assumption) ?_) | with_reducible refine below_only ?_ (by with_reducible assumption) ?_ ?_ | (simp; done) | (simp; omega) | omega)) hst))
                         clear hb7)
                      | fail)
                    go_roundw
                    case rel => exact ⟨3, N3 + 1, by omega, by go_num, rfl, Lib.hid (by rw [HN3.out, Hs2.out]; omega), by omega, by omega, Hb7.out⟩
                    case measure => simp [intOf]
                  | true =>
                    have HHt := Lib.hid (HH.out k ((j : Int) + 1))
                    rw [hq] at HHt
                    have Hs2 : Hid (S 3 = S 2) := Lib.hid (by rw [HS.out.2.2.2.1, hq]; simp [ind])
                    clear hq
                    go_wp2_with (first
                      | (go_at_call 10
                         refine (HHt.out _ ((HC5.out.below Hbt.out).below (by repeat' (first | with_reducible exact Below.refl _ _ | with_reducible refine below_drewN ?_ _ | with_reducible refine Below.drew ?_ | with_reducible refine Below.alloc ?_ ?_ _ | with_reducible refine Below.setCell ?_ ?_ _ | with_reducible refine Below.trans ?_ (Below.mono (by with_reducible assumption) ?_) | (simp; done) | (simp; omega) | omega)))).mono ?_
                         rintro e w7 ⟨rfl, hb7⟩
                         have Hb7 : Hid (Below w5.heap.size w5 w7) := Lib.hid (by have hbq := hb7; exact Hbt.out.trans (Below.mono (B := wt.heap.size) (by repeat' (first | with_reducible exact Below.refl _ _ | with_reducible assumption | with_reducible refine below_drewN ?_ _ | with_reducible refine Below.drew ?_ | with_reducible refine Below.alloc ?_ ?_ _ | with_reducible refine Below.setCell ?_ ?_ _ | with_reducible refine Below.trans ?_ (Below.mono (by with_reducible assumption) ?_) | with_reducible refine below_only ?_ (by with_reducible assumption) ?_ ?_ | (simp; done) | (simp; omega) | omega)) hst))
                         clear hb7)
                      | fail)
                    go_roundw
                    case rel => exact ⟨3, N3, by omega, by go_num, rfl, Lib.hid (by rw [HN3.out, Hs2.out]), by omega, by omega, Hb7.out⟩
                    case measure => simp [intOf]
                · cases hq : hs k ((j : Int) + -1) with
                  | false =>
                    have HHt := Lib.hid (HH.out k ((j : Int) + -1))
                    rw [hq] at HHt
                    have Hs2 : Hid (S 4 = S 3 + 1) := Lib.hid (by rw [HS.out.2.2.2.2, hq]; rfl)
                    clear hq
                    go_wp2_with (first
                      | (go_at_call 10
                         refine (HHt.out _ ((HC5.out.below Hbt.out).below (by repeat' (first | with_reducible exact Below.refl _ _ | with_reducible refine below_drewN ?_ _ | with_reducible refine Below.drew ?_ | with_reducible refine Below.alloc ?_ ?_ _ | with_reducible refine Below.setCell ?_ ?_ _ | with_reducible refine Below.trans ?_ (Below.mono (by with_reducible assumption) ?_) | (simp; done) | (simp; omega) | omega)))).mono ?_
                         rintro e w7 ⟨rfl, hb7⟩
                         have Hb7 : Hid (Below w5.heap.size w5 w7) := Lib.hid (by have hbq := hb7; exact Hbt.out.trans (Below.mono (B := wt.heap.size) (by repeat' (first | with_reducible exact Below.refl _ _ | with_reducible assumption | with_reducible refine below_drewN ?_ _ | with_reducible refine Below.drew ?_ | with_reducible refine Below.alloc ?_ ?_ _ | with_reducible refine Below.setCell ?_ ?_ _ | with_reducible refine Below.trans ?_ (Below.mono (by with_reducible assumption) ?_) | with_reducible refine below_only ?_ (by with_reducible assumption) ?_ ?_ | (simp; done) | (simp; omega) | omega)) hst))
                         clear hb7)
                      | fail)
                    go_roundw
                    case rel => exact ⟨4, N3 + 1, by omega, by go_num, rfl, Lib.hid (by rw [HN3.out, Hs2.out]; omega), by omega, by omega, Hb7.out⟩
                    case measure => simp [intOf]
                  | true =>
                    have HHt := Lib.hid (HH.out k ((j : Int) + -1))
                    rw [hq] at HHt
                    have Hs2 : Hid (S 4 = S 3) := Lib.hid (by rw [HS.out.2.2.2.2, hq]; simp [ind])
                    clear hq
                    go_wp2_with (first
                      | (go_at_call 10
                         refine (HHt.out _ ((HC5.out.below Hbt.out).below (by repeat' (first | with_reducible exact Below.refl _ _ | with_reducible refine below_drewN ?_ _ | with_reducible refine Below.drew ?_ | with_reducible refine Below.alloc ?_ ?_ _ | with_reducible refine Below.setCell ?_ ?_ _ | with_reducible refine Below.trans ?_ (Below.mono (by with_reducible assumption) ?_) | (simp; done) | (simp; omega) | omega)))).mono ?_
                         rintro e w7 ⟨rfl, hb7⟩
                         have Hb7 : Hid (Below w5.heap.size w5 w7) := Lib.hid (by have hbq := hb7; exact Hbt.out.trans (Below.mono (B := wt.heap.size) (by repeat' (first | with_reducible exact Below.refl _ _ | with_reducible assumption | with_reducible refine below_drewN ?_ _ | with_reducible refine Below.drew ?_ | with_reducible refine Below.alloc ?_ ?_ _ | with_reducible refine Below.setCell ?_ ?_ _ | with_reducible refine Below.trans ?_ (Below.mono (by with_reducible assumption) ?_) | with_reducible refine below_only ?_ (by with_reducible assumption) ?_ ?_ | (simp; done) | (simp; omega) | omega)) hst))
                         clear hb7)
                      | fail)
                    go_roundw
                    case rel => exact ⟨4, N3, by omega, by go_num, rfl, Lib.hid (by rw [HN3.out, Hs2.out]), by omega, by omega, Hb7.out⟩
                    case measure => simp [intOf]
              · obtain rfl : t = 4 := by omega
                have Hnew : Hid (N3 = N + U k (j + 1)) := Lib.hid (by rw [HN3.out, HN2.out, HS4.out]; omega)
                go_wp2
                go_roundw
                case rel => exact ⟨j + 1, N3, by omega, by go_num, rfl, Hnew, by omega, by omega, Hb5.out.trans (Hbt.out.mono hs5)⟩
                case measure => simp [intOf]; omega
        · obtain rfl : j = 9 := by omega
          have Hnew : Hid (N2 = T (k + 1)) := Lib.hid (by rw [HN2.out, HN.out, HT'.out])
          go_wp2
          go_roundw
          case rel => exact ⟨k + 1, N2, by omega, by go_num, rfl, Hnew, hN20, by omega, Hbr2.out⟩
          case measure => simp [intOf]; omega
    · obtain rfl : k = 9 := by omega
      have hNT : N = TT := HN.out.trans HT9.out
      subst hNT
      have hs3 := Hbr.out.size
      have c3 := (Hbr.out.cell (p := ⟨G, 0, none⟩) hs2).trans c2
      have HC3 := Lib.hid (HC2.out.below Hbr.out)
      go_wp2_with (first
        | (go_at_call 11
           refine (HB.out _ HC3.out).mono ?_
           rintro e w4 ⟨rfl, hb4⟩
           have Hb4 : Hid (Below w.heap.size w w4) := Lib.hid (Hb2.out.trans ((Hbr.out.trans (hb4.mono hs3)).mono Hb2.out.size))
           have hs4 := Hb4.out.size
           clear hb4 c3)
        | (go_at_call 12
           refine (HAw.out _).mono ?_
           rintro e w5 ⟨rfl, hb5⟩
           have Hb5 : Hid (Below w.heap.size w w5) := Lib.hid (Hb4.out.trans (hb5.mono hs4))
           clear hb5)
        | fail)
      go_ret
      exact ⟨rfl, Hb5.out⟩
end Go.Proofs.YtpcfhcdbibklcaaGreat
