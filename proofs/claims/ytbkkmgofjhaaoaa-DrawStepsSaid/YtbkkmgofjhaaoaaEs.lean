/- DrawSamples: its walk. -/
import Derived.Test.YtbkkmgofjhaaoaaE1
import Derived.Test.YtbkkmgofjhaaoaaE6
import Derived.Test.YtbkkmgofjhaaoaaEn
namespace Go.Proofs.Ytbkkmgofjhaaoaa
open Go.RowKit
set_option linter.unusedVariables false
set_option linter.unusedSimpArgs false

theorem Sl.ints_own {w : World} {base : Nat} {v : Value} {l : List Int} (h : w.ownsRow base 3 1 v l.length (l.map (.int .i64))) : ∃ A c, v = .slice A l.length c ∧ Sl w A c (l.map (.int .i64)) := by
  obtain ⟨A, c, rfl, _⟩ := own_slice h
  exact ⟨A, c, rfl, Sl.of_own h (by simp)⟩
/-- A list, where it lies, at place j of three. -/
def At3 (W : World) (B : Nat) (j : Nat) : Prop := ∃ (A : Option Addr) (c : Nat) (l : List Int), W.cell? ⟨B, j, none⟩ = some (.slice A l.length c) ∧ Sl W A c (l.map (.int .i64)) ∧ l.length ≤ 1000
def Num3 (W : World) (B : Nat) (j : Nat) : Prop := ∃ x : Int, W.cell? ⟨B, j, none⟩ = some (.int .i64 x)

set_option maxHeartbeats 8000000 in
set_option maxRecDepth 100000 in
theorem samplesLaw (A : Option Addr) (n c : Nat) (zs : List Int) (s : Int) (C : Option Addr) (m e : Nat) (us : List Int) (k : Int) (w : World) (hn : zs.length = n) (hc : n ≤ c) (hm : c ≤ maxLen) (hw : ∀ z ∈ zs, (Lit.int .i64 z).wf = true) (hA : Lies w A n (zs.map (.int .i64)))
    (hus : us.length = m) (hme : m ≤ e) (hem : e ≤ maxLen) (hC : Lies w C m (us.map (.int .i64))) (hk : -9223372036854775808 ≤ k ∧ k ≤ 9223372036854775807) :
    Calls Try.prog 5 #[.slice A n c, .int .u64 s, .slice C m e, .int .i64 k] w fun e w' => e = .returned (.bool true) ∧ Below w.heap.size w w' := by
  obtain ⟨i0, hi, hz0, hz1, hz2⟩ := info_parts Try.infoIn
  have HNew := Lib.hid (tape_new A n c zs w hn hc hm hw hA)
  have HC : Hid (Sl w C e (us.map (.int .i64))) := Lib.hid ⟨by simpa [hus] using hme, hem, by simpa [hus] using hC⟩
  have HU := Lib.hid hus
  obtain ⟨hk1, hk2⟩ := hk
  clear hw hA hn hm hc hC hme hem hus
  by_cases h1 : (70 : Int) < (m : Int)
  · go_enter Try.func5, Try.ntmps5
    go_wp2_with (first | (go_at_call 9; refine (awake_any _).mono ?_; rintro e w1 ⟨rfl, hb1⟩; have Hb1 : Hid (Below w.heap.size w w1) := Lib.hid (show Below w.heap.size w w1 from (by have hbq := hb1; exact (by repeat' (first | with_reducible exact Below.refl _ _ | with_reducible assumption | with_reducible refine below_drewN ?_ _ | with_reducible refine Below.drew ?_ | with_reducible refine Below.alloc ?_ ?_ _ | with_reducible refine Below.setCell ?_ ?_ _ | with_reducible refine Below.trans ?_ (Below.mono (by with_reducible assumption) ?_) | with_reducible refine below_only ?_ (by with_reducible assumption) ?_ ?_ | (simp; done) | (simp; omega) | omega)))); clear hb1) | fail)
    go_ret
    exact ⟨rfl, Hb1.out⟩
  have hm70 : m ≤ 70 := by omega
  go_enter Try.func5, Try.ntmps5
  go_upto_region 6 with (first
    | (go_at_call 10
       refine (HNew.out _ (Below.refl _ _)).mono ?_
       rintro e1 w1 ⟨g, rfl, hg1, ht1, hb1⟩
       have Ht1 := Lib.hid ht1
       have Hb1 := Lib.hid hb1
       have hgl := ht1.lt
       clear ht1 hb1)
    | fail)
  clear HNew
  obtain ⟨r, hr⟩ : ∃ r, zs.take 400 = r := ⟨_, rfl⟩
  rw [hr] at Ht1
  have hbx := nx_bd r 20 (by omega)
  obtain ⟨x, hx⟩ : ∃ x, nx r 20 = x := ⟨_, rfl⟩
  have HN := Lib.hid (next_any g r 20 w1 Ht1.out (by omega))
  rw [hx] at HN hbx
  clear hr hx
  go_wp2_with (first
    | (go_at_call 13
       refine HN.out.mono ?_
       rintro e2 w2 ⟨rfl, ht2, hg2⟩
       have Ht2 := Lib.hid ht2
       have Hb2 : Hid (Below w.heap.size w w2) := Lib.hid (below_only Hb1.out hg2 hg1 Hb1.out.size)
       have hs2 := hg2.size
       clear ht2 hg2)
    | fail)
  have hsw := Hb1.out.size
  clear HN Ht1 Hb1
  go_loopw [10, 11, 12] (fun v a i wr => ∃ (l : List Int) (at_ j : Int) (r' : List Int), i = .int .i64 j ∧ 0 ≤ j ∧ (l.length : Int) + j ≤ 19 ∧ a = .int .i64 at_ ∧ 0 ≤ at_ ∧ at_ ≤ 9 * (l.length : Int) ∧ wr.ownsRow w2.heap.size 3 1 v l.length (l.map (.int .i64)) ∧ TapeAt wr g r' ∧ Below w.heap.size w wr ∧ w2.heap.size ≤ wr.heap.size) (fun _ _ i _ => (intOf i).toNat)
  case atStart => exact ⟨[], 0, x, _, rfl, by omega, by simp; omega, rfl, by omega, by simp, World.ownsRow_nil _ _ _ _, Ht2.out, Hb2.out, Nat.le_refl _⟩
  case round =>
    obtain ⟨l, at_, j, r', rfl, hj0, hj1, rfl, ha0, ha1, hown, htp, hbw, hsz⟩ := hrel
    obtain ⟨V, vc, rfl, hV⟩ := Sl.ints_own hown
    have Hown := Lib.hid hown
    have Htp := Lib.hid htp
    have Hbw := Lib.hid hbw
    have HV := Lib.hid hV
    have hsw' := hbw.size
    clear hown htp hbw hV
    by_cases hj : 0 < j
    · have hby := nx_bd r' (9 - 1 + 1) (by omega)
      have HR := Lib.hid (range_any g r' 1 9 wr Htp.out (by omega) (by omega) (by omega))
      obtain ⟨y, hy⟩ : ∃ y, 1 + nx r' (9 - 1 + 1) = y := ⟨_, rfl⟩
      rw [hy] at HR
      have hy1 : 1 ≤ y := by omega
      have hy9 : y ≤ 9 := by omega
      clear hy hby
      go_wp2_with (first
        | (go_at_call 37
           refine HR.out.mono ?_
           rintro e3 w3 ⟨rfl, ht3, hg3⟩
           have Ht3 := Lib.hid ht3
           have Hb3 : Hid (Below w.heap.size w w3) := Lib.hid (below_only Hbw.out hg3 hg1 hsw')
           have HV3 : Hid (Sl w3 V vc (l.map (.int .i64))) := Lib.hid (Sl.of_own (ownsRow_only Hown.out hg3 (by omega)) (by simp))
           have hs3 := hg3.size
           clear ht3 hg3)
        | (at_builtin
           refine wpList_append_any _ rfl (.tmp 38) (.tmp 39) _ rfl w2.heap.size 3 i0 _ 1 8 Try.underlying22 hi hz0 hz1 hz2 rfl (by omega) _ 1 [.int .i64 (at_ + y)] rfl
             (World.ownsRow_lit w3 #[.int .i64 (at_ + y)] 1 (by omega) (by unfold maxLen; omega) (by simp)) _ _ l.length vc (l.map (.int .i64)) rfl (Lies.reads (by have := HV3.out.lies; rw [List.length_map] at this; exact this.alloc _) (by simp)) (ints_oneCell .i64 _) (by simp only [maxLen]; omega) (by omega) (by simp; omega) ?_
           intro v5 w5 hown5 hg5 hat5)
        | fail)
      go_roundw
      case rel =>
        have hb5 : Below w3.heap.size w3 w5 := Below.grown (Below.alloc (Below.refl _ _) (Nat.le_refl _) _) hg5 (by simp) (fun x hx => by have hx' : some w3.heap.size = some x := hx; injection hx' with hx'; omega)
        refine ⟨(at_ + y) :: l, at_ + y, j - 1, _, by go_num, by omega, by simp; omega, rfl, by omega, by simp; omega, ?_, Ht3.out.below hb5 (by omega), Hb3.out.trans (hb5.mono Hb3.out.size), by have := hb5.size; omega⟩
        rw [List.length_cons, Nat.add_comm]
        exact hown5
      case measure => simp [intOf]; omega
    · have hl19 : l.length ≤ 19 := by omega
      go_wp2_with (first
        | (at_builtin
           refine wpList_append_any _ rfl (.tmp 43) (.tmp 44) _ rfl wr.heap.size 3 i0 _ 1 8 Try.underlying22 hi hz0 hz1 hz2 rfl (by omega) _ 0 [] rfl
             (own_zero wr wr.heap.size _ _ (Nat.le_refl _)) _ _ l.length vc (l.map (.int .i64)) rfl (Lies.reads (by have := HV.out.lies; rw [List.length_map] at this; exact this.alloc _) (by simp)) (ints_oneCell .i64 _) (by simp only [maxLen]; omega) (by omega) (by simp) ?_
           intro v4 w4 hown4 hg4 hat4
           have Hown4 := Lib.hid hown4
           have Hb4 : Hid (Below wr.heap.size wr w4) := Lib.hid (Below.grown (Below.alloc (Below.refl _ _) (Nat.le_refl _) _) hg4 (by simp) (fun x hx => by have hx' : some wr.heap.size = some x := hx; injection hx' with hx'; omega))
           have hs4 := Hb4.out.size
           clear hown4 hg4 hat4)
        | (at_builtin
           refine wpList_append_any _ rfl (.tmp 45) (.tmp 46) _ rfl wr.heap.size 3 i0 _ 1 8 Try.underlying22 hi hz0 hz1 hz2 rfl (by omega) v4 (0 + l.length) ([] ++ l.map (.int .i64)) (by rfl)
             Hown4.out _ _ m e (us.map (.int .i64)) rfl (Lies.reads (by have := ((HC.out.below Hbw.out).below Hb4.out).lies; rw [List.length_map, HU.out] at this; exact this) (by simp [HU.out])) (ints_oneCell .i64 _) (by simp only [maxLen]; omega) (by omega) (by omega) ?_
           intro v5 w5 hown5 hg5 hat5
           have hown6 : w5.ownsRow wr.heap.size 3 1 v5 (l ++ us).length ((l ++ us).map (.int .i64)) := by
             have := hown5
             rw [List.nil_append, Nat.zero_add, ← HU.out, ← List.length_append, ← List.map_append] at this
             exact this
           have hL0 : (l ++ us).length ≤ 1000 := by have := HU.out; rw [List.length_append]; omega
           obtain ⟨L3, hL3⟩ : ∃ L, l ++ us = L := ⟨_, rfl⟩
           rw [hL3] at hown6 hL0
           obtain ⟨V5, c5, rfl, hV5⟩ := Sl.ints_own hown6
           have HV5 := Lib.hid hV5
           have Hb5 : Hid (Below wr.heap.size wr w5) := Lib.hid (Below.grown Hb4.out hg5 hs4 (own_base Hown4.out))
           clear hown5 hg5 hat5 hown6 hV5 hL3)
        | fail)
      obtain ⟨BS, hBS⟩ : ∃ B, w5.heap.size = B := ⟨_, rfl⟩
      have hrow := heap_alloc_new w5 (.cells #[.slice V l.length vc, .slice C m e, .slice V5 L3.length c5] 22)
      have hs6 : BS < (w5.alloc (.cells #[.slice V l.length vc, .slice C m e, .slice V5 L3.length c5] 22)).heap.size := by rw [← hBS]; simp
      have Hb6 : Hid (Below w5.heap.size w5 (w5.alloc (.cells #[.slice V l.length vc, .slice C m e, .slice V5 L3.length c5] 22))) := Lib.hid (by repeat' (first | with_reducible exact Below.refl _ _ | with_reducible refine below_drewN ?_ _ | with_reducible refine Below.drew ?_ | with_reducible refine Below.alloc ?_ ?_ _ | with_reducible refine Below.setCell ?_ ?_ _ | with_reducible refine Below.trans ?_ (Below.mono (by with_reducible assumption) ?_) | (simp; done) | (simp; omega) | omega))
      have HB : Hid (Below w.heap.size w (w5.alloc (.cells #[.slice V l.length vc, .slice C m e, .slice V5 L3.length c5] 22))) := Lib.hid ((Hbw.out.trans (Hb5.out.mono hsw')).trans (Hb6.out.mono (by have := Hb5.out.size; omega)))
      rw [hBS] at hrow
      have HK : Hid (∀ j, j < 3 → At3 (w5.alloc (.cells #[.slice V l.length vc, .slice C m e, .slice V5 L3.length c5] 22)) BS j) := Lib.hid (fun j hj => by
        rcases (show j = 0 ∨ j = 1 ∨ j = 2 by omega) with rfl | rfl | rfl
        · exact ⟨_, _, l, cell_of_row _ BS 0 _ _ _ hrow, (HV.out.below Hb5.out).below Hb6.out, by omega⟩
        · exact ⟨_, _, us, by rw [HU.out]; exact cell_of_row _ BS 1 _ _ _ hrow, ((HC.out.below Hbw.out).below Hb5.out).below Hb6.out, by have := HU.out; omega⟩
        · exact ⟨_, _, L3, cell_of_row _ BS 2 _ _ _ hrow, HV5.out.below Hb6.out, hL0⟩)
      rw [hBS]
      generalize w5.alloc (.cells #[.slice V l.length vc, .slice C m e, .slice V5 L3.length c5] 22) = w6 at *
      have hsB := HB.out.size
      clear hrow Hb6 Hb5 HV5 Hb4 Hown4 hs4 HV Hown Htp Hbw hsz hsw' HC Ht2 Hb2 hs2 hgl hg1 hsw ha0 ha1 hj0 hj1 hj hbx hBS
      go_loopw [50] (fun i wr => ∃ j : Nat, j ≤ 3 ∧ i = .int .i64 (j : Int) ∧ Below w6.heap.size w6 wr) (fun i _ => (3 - intOf i).toNat)
      case atStart => exact ⟨0, by omega, rfl, Below.refl _ _⟩
      case round =>
        obtain ⟨j, hj, rfl, hbw⟩ := hrel
        have Hbw := Lib.hid hbw
        have hsw := hbw.size
        clear hbw
        by_cases hj3 : j < 3
        · have hj3' : (j : Int) < 3 := by omega
          obtain ⟨X, xc, xl, hcell, hX, hxl⟩ := HK.out j hj3
          have ck : wr.cell? ⟨BS, j, none⟩ = some (.slice X xl.length xc) := (Hbw.out.cell (p := ⟨BS, j, none⟩) hs6).trans hcell
          have HX : Hid (Sl wr X xc (xl.map (.int .i64))) := Lib.hid (hX.below Hbw.out)
          clear hcell hX
          go_wp2_with (first
            | (go_at_call 12
               refine (mod_any _ _ _ ⟨hk1, hk2⟩ (by omega)).mono ?_
               rintro e w' ⟨rfl, rfl⟩)
            | fail)
          obtain ⟨k1, hk1'⟩ : ∃ x, modV k ((xl.length : Int) + 2) = x := ⟨_, rfl⟩
          obtain ⟨k2, hk2'⟩ : ∃ x, modV k ((xl.length : Int) + 1) = x := ⟨_, rfl⟩
          rw [hk1', hk2']
          clear hk1' hk2' ck
          obtain ⟨BN, hBN⟩ : ∃ B, wr.heap.size = B := ⟨_, rfl⟩
          have hrow := heap_alloc_new wr (.cells #[.int .i64 k, .int .i64 k1, .int .i64 k2] 3)
          have hs7 : BN < (wr.alloc (.cells #[.int .i64 k, .int .i64 k1, .int .i64 k2] 3)).heap.size := by rw [← hBN]; simp
          have Hb7 : Hid (Below wr.heap.size wr (wr.alloc (.cells #[.int .i64 k, .int .i64 k1, .int .i64 k2] 3))) := Lib.hid (by repeat' (first | with_reducible exact Below.refl _ _ | with_reducible refine below_drewN ?_ _ | with_reducible refine Below.drew ?_ | with_reducible refine Below.alloc ?_ ?_ _ | with_reducible refine Below.setCell ?_ ?_ _ | with_reducible refine Below.trans ?_ (Below.mono (by with_reducible assumption) ?_) | (simp; done) | (simp; omega) | omega))
          rw [hBN] at hrow
          have HNum : Hid (∀ j, j < 3 → Num3 (wr.alloc (.cells #[.int .i64 k, .int .i64 k1, .int .i64 k2] 3)) BN j) := Lib.hid (fun j hj => by
            rcases (show j = 0 ∨ j = 1 ∨ j = 2 by omega) with rfl | rfl | rfl
            · exact ⟨_, cell_of_row _ BN 0 _ _ _ hrow⟩
            · exact ⟨_, cell_of_row _ BN 1 _ _ _ hrow⟩
            · exact ⟨_, cell_of_row _ BN 2 _ _ _ hrow⟩)
          rw [hBN]
          generalize wr.alloc (.cells #[.int .i64 k, .int .i64 k1, .int .i64 k2] 3) = w7 at *
          have hsw7 := Hb7.out.size
          clear hrow hBN
          go_loopw [67] (fun i wy => ∃ q : Nat, q ≤ 3 ∧ i = .int .i64 (q : Int) ∧ Below w7.heap.size w7 wy) (fun i _ => (3 - intOf i).toNat)
          case atStart => exact ⟨0, by omega, rfl, Below.refl _ _⟩
          case round =>
            obtain ⟨q, hq, rfl, hbq⟩ := hrel
            have Hbq := Lib.hid hbq
            have hsq := hbq.size
            clear hbq
            by_cases hq3 : q < 3
            · have hq3' : (q : Int) < 3 := by omega
              obtain ⟨y, hcell⟩ := HNum.out q hq3
              obtain ⟨⟨rl, re⟩, hres⟩ : ∃ x, sampleP s xl y = x := ⟨_, rfl⟩
              have HS1 : Hid (∀ W, Below w7.heap.size w7 W → Calls Try.prog 38 #[.int .u64 s, .slice X xl.length xc, .int .i64 y] W (SamplePost W (rl, re))) := Lib.hid (fun W hW => by rw [← hres]; exact sample_any s X xc xl y W ((HX.out.below Hb7.out).below hW))
              have HS2 : Hid (∀ W, Below w7.heap.size w7 W → Calls Try.prog 39 #[.int .u64 s, .slice X xl.length xc, .int .i64 y] W (SamplePost W (rl, re))) := Lib.hid (fun W hW => by rw [← hres]; exact sampleR_any s X xc xl y W ((HX.out.below Hb7.out).below hW))
              obtain ⟨wy, hwy⟩ : ∃ wy, wr = wy := ⟨_, rfl⟩
              subst hwy
              have cq : wr.cell? ⟨BN, q, none⟩ = some (.int .i64 y) := (Hbq.out.cell (p := ⟨BN, q, none⟩) hs7).trans hcell
              clear hcell hres
              go_wp2_with (first
                | (go_at_call 38
                   refine (HS1.out _ Hbq.out).mono ?_
                   rintro e w8 ⟨v8, rfl, hown8, hb8⟩
                   obtain ⟨E, ec, rfl, hE⟩ := Sl.ints_own hown8
                   have HE := Lib.hid hE
                   have Hb8 : Hid (Below w7.heap.size w7 w8) := Lib.hid (Hbq.out.trans (hb8.mono hsq))
                   have hs8 := Hb8.out.size
                   clear hown8 hb8 hE)
                | (go_at_call 39
                   refine (HS2.out _ Hb8.out).mono ?_
                   rintro e w9 ⟨v9, rfl, hown9, hb9⟩
                   obtain ⟨F, fc, rfl, hF⟩ := Sl.ints_own hown9
                   have HF := Lib.hid hF
                   have HE9 := Lib.hid (HE.out.below hb9)
                   have Hb9 : Hid (Below w7.heap.size w7 w9) := Lib.hid (Hb8.out.trans (hb9.mono hs8))
                   have hs9 := Hb9.out.size
                   clear hown9 hb9 hF)
                | (go_at_call 30
                   refine (ints_same E F ec fc rl _ HE9.out HF.out).mono ?_
                   rintro e wa ⟨rfl, hba⟩
                   have Hba : Hid (Below w7.heap.size w7 wa) := Lib.hid (Hb9.out.trans (hba.mono hs9))
                   clear hba)
                | fail)
              go_roundw
              case rel => exact ⟨q + 1, by omega, by go_num, Hba.out⟩
              case measure => simp [intOf]; omega
            · have hq3' : ¬ (q : Int) < 3 := by omega
              go_wp2
              go_roundw
              case rel => exact ⟨j + 1, by omega, by go_num, Hbw.out.trans ((Hb7.out.trans (Hbq.out.mono hsw7)).mono hsw)⟩
              case measure => simp [intOf]; omega
        · have hj3' : ¬ (j : Int) < 3 := by omega
          go_wp2_with (first | (go_at_call 9; refine (awake_any _).mono ?_; rintro e wz ⟨rfl, hbz⟩; have Hbz : Hid (Below w.heap.size w wz) := Lib.hid (HB.out.trans ((Hbw.out.mono hsB).trans (hbz.mono (Nat.le_trans hsB hsw)))); clear hbz) | fail)
          go_ret
          exact ⟨rfl, Hbz.out⟩
end Go.Proofs.Ytbkkmgofjhaaoaa
