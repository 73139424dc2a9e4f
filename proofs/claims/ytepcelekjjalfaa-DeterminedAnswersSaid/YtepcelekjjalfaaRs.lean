/- Contract: the reference's sums. -/
import Derived.Test.YtepcelekjjalfaaRl
import Derived.Deep.RegionHeld3
namespace Go.Proofs.Ytepcelekjjalfaa
open Go.RowKit
set_option linter.unusedVariables false

set_option maxHeartbeats 400000 in
theorem sumRf_many (A : Option Addr) (n c : Nat) (wd : Int) (w : World) (L : List Fct) (hn : L.length = n) (h20 : 20 < n) (hm : n ≤ maxLen) :
    Calls Try.prog 18 #[.slice A n c, .int .i64 wd] w (SumPost w L wd) := by
  have hf := Lib.hid (@sumPost_err w w L wd 1 (by unfold sumE; rw [if_pos (by omega)]) (by omega) (Below.refl _ _))
  clear hn
  unfold maxLen at hm
  go_enter Try.func18, Try.ntmps18
  go_wp2
  refine bodyPost_ret (results_tmp4 rfl _ _ _) rfl ?_
  exact hf.out

set_option maxHeartbeats 400000 in
theorem sumRf_few (A : Option Addr) (n c : Nat) (wd : Int) (w : World) (L : List Fct) (hn : L.length = n) (h20 : n ≤ 20) (hA : Lies w A n (factCells L)) :
    Calls Try.prog 18 #[.slice A n c, .int .i64 wd] w (SumPost w L wd) := by
  obtain ⟨i0, hi, hz0, hz1, hz2⟩ := info_parts Try.infoInt
  have Hn := Lib.hid hn
  clear hn
  have HA := Lib.hid hA
  clear hA
  go_enter Try.func18, Try.ntmps18
  go_wp2
  go_loopw [8, 9, 10, 11] (fun x y v i wr => ∃ m : Nat, m ≤ n ∧ errS (L.take m) wd = 0 ∧ i = .int .i64 m ∧ x = .int .i64 (sumD (L.take m)) ∧ y = .int .i64 (sumN (L.take m) wd) ∧ wr.ownsRow w.heap.size 3 1 v m ((sumR (L.take m) wd).map (.int .i64)) ∧ Below w.heap.size w wr) (fun _ _ _ i _ => n - (intOf i).toNat)
  case atStart => exact ⟨0, Nat.zero_le _, rfl, rfl, rfl, rfl, World.ownsRow_nil _ _ _ _, Below.refl _ _⟩
  case round =>
    obtain ⟨m, hm, he, rfl, rfl, rfl, hown, hbr⟩ := hrel
    have hsr := hbr.size
    have hlt : (L.take m).length ≤ m := List.length_take_le _ _
    have hbd := sums_bd (L.take m) wd he
    by_cases hmn : m < n
    · have hL : m < L.length := by have := Hn.out; omega
      have htk : L.take (m + 1) = L.take m ++ [L[m]] := List.take_succ_eq_append_getElem hL
      obtain ⟨b, off, rfl, hb, hcell⟩ := HA.out.resolve_left (by omega)
      obtain ⟨h0, h1, h2, h3, h4, h5⟩ := factCells_at L m hL
      have c0 := (hbr.cell (p := ⟨b, off + m * 6, none⟩) hb).trans (hcell _ _ h0)
      have c1 := (hbr.cell (p := ⟨b, off + (m * 6 + 1), none⟩) hb).trans (hcell _ _ h1)
      rw [← Nat.add_assoc] at c1
      have c2 := (hbr.cell (p := ⟨b, off + (m * 6 + 2), none⟩) hb).trans (hcell _ _ h2)
      rw [← Nat.add_assoc] at c2
      have c3 := (hbr.cell (p := ⟨b, off + (m * 6 + 3), none⟩) hb).trans (hcell _ _ h3)
      rw [← Nat.add_assoc] at c3
      have c4 := (hbr.cell (p := ⟨b, off + (m * 6 + 4), none⟩) hb).trans (hcell _ _ h4)
      rw [← Nat.add_assoc] at c4
      have c5 := (hbr.cell (p := ⟨b, off + (m * 6 + 5), none⟩) hb).trans (hcell _ _ h5)
      rw [← Nat.add_assoc] at c5
      clear h0 h1 h2 h3 h4 h5 hcell
      have hb' : b < wr.heap.size := by omega
      have Htk := Lib.hid htk
      clear htk
      have Hchk := Lib.hid (lineR_any L[m].d L[m].u L[m].s L[m].k L[m].a L[m].b wd)
      have Hz : Hid (checkF L[m].d L[m].u L[m].s L[m].k L[m].a L[m].b wd = chkOf L[m] wd) := Lib.hid rfl
      have Hl : Hid (lineV L[m].d L[m].u L[m].s L[m].k L[m].a L[m].b wd = lineOf L[m] wd) := Lib.hid rfl
      rw [Hz.out, Hl.out] at Hchk
      clear Hz Hl
      generalize L[m] = f at *
      by_cases hz : chkOf f wd = 0
      · have hbf := chkOf_bd f wd hz
        rw [hz] at Hchk
        have Hz := Lib.hid hz
        clear hz
        generalize hq : lineOf f wd = q at *
        have Hq := Lib.hid hq
        clear hq
        have ag := own_fresh hown
        have ab := own_base hown
        have Hown := Lib.hid hown
        have Hbd := Lib.hid hbd
        have Hlen := Lib.hid hlt
        obtain ⟨hbd1, hbd2, hbd3, hbd4⟩ : 0 ≤ sumD (L.take m) ∧ sumD (L.take m) ≤ 5368709120 ∧ 0 ≤ sumN (L.take m) wd ∧ sumN (L.take m) wd ≤ 5368709120 := by omega
        clear hown hbd hlt
        obtain ⟨D, HD⟩ : ∃ D, Hid (sumD (L.take m) = D) := ⟨_, rfl⟩
        obtain ⟨N, HN⟩ : ∃ N, Hid (sumN (L.take m) wd = N) := ⟨_, rfl⟩
        rw [HD.out] at hbd1 hbd2 ⊢
        rw [HN.out] at hbd3 hbd4 ⊢
        go_wp2_with (go_at_call 14; refine (Hchk.out _).mono ?_; rintro e w1 ⟨rfl, hb1⟩; obtain ⟨hc1, hf1⟩ := bcell hb1)
        have cf : w1.cell? ⟨b, off + m * 6, none⟩ = some (.int .i64 f.d) := by rw [hc1 _ _ hb']; exact c0
        have hs1 : wr.heap.size ≤ w1.heap.size := hb1.size
        have e1 : IntKind.i64.wrap (D + f.d) = D + f.d := IntWalk.i64_in _ (by omega)
        have e2 : IntKind.i64.wrap (N + q.1) = N + q.1 := IntWalk.i64_in _ (by omega)
        have ag' : some b ≠ u10.ownBlock := by intro e; have := ab b e.symm; omega
        have hm0 : (0 : Int) ≤ (m : Int) := Int.natCast_nonneg _
        have hm1 : (m : Int) < (n : Int) := by omega
        clear c0 c1 c2 c3 c4 c5 hc1 hf1
        go_region_held3 (fun w' => w'.cell? ⟨b, off + m * 6, none⟩ = some (.int .i64 f.d))
          (first
            | go_keep
            | (rw [hgrow.cell_far _ (by simp; omega) ag']; go_keep))
          ((refine step_append_lies _ (by rfl) _ _ _ (by rfl) w.heap.size 3 i0 _ 1 8 Try.underlying22 hi hz0 hz1 hz2 rfl (by omega) u10 m ((sumR (L.take m) wd).map (.int .i64)) (by rfl) (((ownsRow_below Hown.out hb1).alloc _).drew)
                ⟨w1.heap.size, 0, none⟩ 1 1 [.int .i64 q.2] (by rfl) (by rfl) (World.news_of_block (cs := #[.int .i64 q.2]) (t := 3) (fr := (0, 0)) (heap_alloc_new w1 _)) (by simp [Value.oneCell'])
                (by omega) (by unfold maxLen; omega) (by omega) (by simp; omega) (w1.heap.size + 1) (by simp) ?_; intro gg cap w2 hown2 hgrow hat hltg))
        go_wp2
        go_roundw
        case rel =>
          refine ⟨m + 1, by omega, ?_, by go_num, ?_, ?_, ?_, ?_⟩
          · rw [Htk.out, errS_app _ _ _ he]; exact Hz.out
          · rw [Htk.out, sumD_app, HD.out]
          · rw [Htk.out, sumN_app, HN.out, Hq.out]
          · rw [Htk.out, sumR_app, Hq.out]; simpa using hown2
          · exact ((by repeat' (first | with_reducible exact Below.refl _ _ | with_reducible refine below_drewN ?_ _ | with_reducible refine Below.drew ?_ | with_reducible refine Below.alloc ?_ ?_ _ | with_reducible refine Below.setCell ?_ ?_ _ | with_reducible refine Below.trans ?_ (Below.mono (by with_reducible assumption) ?_) | (simp; done) | (simp; omega) | omega)) : Below w.heap.size w _).grown hgrow (by simp; omega) ab
        case measure => simp [intOf]; omega
      · have hE : sumE L wd = chkOf f wd := by
          have hc : errS L wd = chkOf f wd := by
            have h1 : errS (L.take (m + 1)) wd = chkOf f wd := by rw [Htk.out, errS_app _ _ _ he]
            have h2 := errS_cut (L.take (m + 1)) (L.drop (m + 1)) wd (by rw [h1]; exact hz)
            rw [List.take_append_drop] at h2
            rw [h2, h1]
          have := Hn.out
          unfold sumE
          rw [if_neg (by omega), hc, if_pos hz]
        have Hp := Lib.hid (fun w' => @sumPost_err w w' L wd (chkOf f wd) hE hz)
        have hz' : (chkOf f wd != 0) = true := by simp [hz]
        clear hE hz hbd hown
        generalize chkOf f wd = z at *
        generalize lineOf f wd = q at *
        go_wp2_with (go_at_call 14; refine (Hchk.out _).mono ?_; rintro e w1 ⟨rfl, hb1⟩; obtain ⟨hc1, hf1⟩ := bcell hb1)
        refine bodyPost_ret (results_tmp4 rfl _ _ _) rfl ?_
        exact Hp.out _ (by repeat' (first | with_reducible exact Below.refl _ _ | with_reducible refine below_drewN ?_ _ | with_reducible refine Below.drew ?_ | with_reducible refine Below.alloc ?_ ?_ _ | with_reducible refine Below.setCell ?_ ?_ _ | with_reducible refine Below.trans ?_ (Below.mono (by with_reducible assumption) ?_) | (simp; done) | (simp; omega) | omega))
    · have hmn' : m = n := by omega
      subst hmn'
      have hLm : L.take m = L := List.take_of_length_le (by have := Hn.out; omega)
      rw [hLm] at he hbd hlt hown ⊢
      clear hLm
      have hbd' : 0 ≤ sumD L ∧ sumD L ≤ 5368709120 ∧ 0 ≤ sumN L wd ∧ sumN L wd ≤ 5368709120 := by omega
      by_cases hbig : 268435456 < sumD L
      · have hE : sumE L wd = 2 := by
          have := Hn.out
          unfold sumE
          rw [if_neg (by omega), if_neg (by simp [he]), if_pos hbig]
        have Hp := Lib.hid (fun w' => @sumPost_err w w' L wd 2 hE (by omega))
        clear hE hown hbd
        generalize sumD L = D at *
        generalize sumN L wd = N at *
        go_wp2
        refine bodyPost_ret (results_tmp4 rfl _ _ _) rfl ?_
        exact Hp.out _ hbr
      · have hE : sumE L wd = 0 := by
          have := Hn.out
          unfold sumE
          rw [if_neg (by omega), if_neg (by simp [he]), if_neg hbig]
        have hown' : wr.ownsRow w.heap.size 3 1 u10 (sumRV L wd).length ((sumRV L wd).map (.int .i64)) := by
          unfold sumRV
          rw [if_pos hE, sumR_len, Hn.out]
          exact hown
        have Hp : Hid (SumPost w L wd (.returned (.tuple #[.int .i64 (sumD L), .int .i64 (sumN L wd), u10, .int .i64 0])) wr) := by
          refine ⟨u10, ?_, hown', hbr⟩
          unfold sumDV sumNV
          rw [if_pos hE, if_pos hE, hE]
        clear hE hown hown' hbd
        generalize sumD L = D at *
        generalize sumN L wd = N at *
        go_wp2
        refine bodyPost_ret (results_tmp4 rfl _ _ _) rfl ?_
        exact Hp.out

theorem sumRf_any (A : Option Addr) (n c : Nat) (wd : Int) (w : World) (L : List Fct) (hn : L.length = n) (hm : n ≤ maxLen) (hA : Lies w A n (factCells L)) :
    Calls Try.prog 18 #[.slice A n c, .int .i64 wd] w (SumPost w L wd) := by
  by_cases h : 20 < n
  · exact sumRf_many A n c wd w L hn h hm
  · exact sumRf_few A n c wd w L hn (by omega) hA
end Go.Proofs.Ytepcelekjjalfaa
