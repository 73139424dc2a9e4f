/- Contract: whether a plan is right (the reference of strata: Check). -/
import Derived.Test.YtjmbdfoegnfpnaaJ0
namespace Go.Proofs.Ytjmbdfoegnfpnaa
open Go.RowKit
set_option linter.unusedVariables false
set_option linter.unusedSimpArgs false

set_option maxHeartbeats 4000000 in
set_option maxRecDepth 100000 in
theorem checkR_any (p : PlV) (q : Pl) (w : World) (hA : PlAt w p q) :
    Calls Try.prog 17 #[.agg #[.slice p.a1 q.ws.length p.c1, .slice p.a2 q.ls.length p.c2, .slice p.a3 q.ss.length p.c3, .int .i64 q.le, .int .i64 q.ra]] w fun e w' => e = .returned (.int .i64 (checkP q)) ∧ Below w.heap.size w w' := by
  have Hv : Hid (checkP q = if planB q then 0 else 64) := Lib.hid rfl
  generalize checkP q = res at *
  go_enter Try.func17, Try.ntmps17
  go_upto_region 1 with fail
  obtain ⟨wa, hwa⟩ : ∃ wa : World, wa = w.alloc (.cells #[.slice p.a1 q.ws.length p.c1, .slice p.a2 q.ls.length p.c2, .slice p.a3 q.ss.length p.c3, .int .i64 q.le, .int .i64 q.ra] 24) := ⟨_, rfl⟩
  rw [← hwa]
  have Hr : Hid (wa.heap[w.heap.size]? = some (.cells #[.slice p.a1 q.ws.length p.c1, .slice p.a2 q.ls.length p.c2, .slice p.a3 q.ss.length p.c3, .int .i64 q.le, .int .i64 q.ra] 24 (0, 0))) := Lib.hid (by rw [hwa]; exact heap_alloc_new w _)
  have Hba : Hid (Below w.heap.size w wa) := Lib.hid (by rw [hwa]; exact (by repeat' (first | with_reducible exact Below.refl _ _ | with_reducible refine below_drewN ?_ _ | with_reducible refine Below.drew ?_ | with_reducible refine Below.alloc ?_ ?_ _ | with_reducible refine Below.setCell ?_ ?_ _ | with_reducible refine Below.trans ?_ (Below.mono (by with_reducible assumption) ?_) | (simp; done) | (simp; omega) | omega)))
  have hl : w.heap.size < wa.heap.size := by rw [hwa]; simp
  have HA := Lib.hid (hA.below Hba.out)
  have c0 := cell_of_row wa w.heap.size 0 _ _ _ Hr.out
  have c1 := cell_of_row wa w.heap.size 1 _ _ _ Hr.out
  have c2 := cell_of_row wa w.heap.size 2 _ _ _ Hr.out
  have c3 := cell_of_row wa w.heap.size 3 _ _ _ Hr.out
  have c4 := cell_of_row wa w.heap.size 4 _ _ _ Hr.out
  clear hwa hA
  by_cases h1 : q.ws.length < 1
  · have h1' : (q.ws.length : Int) < 1 := by omega
    have Hres : Hid (res = 64) := Lib.hid (by rw [Hv.out]; unfold planB; simp [show ¬ 1 ≤ q.ws.length by omega])
    go_wp2
    go_ret
    exact ⟨by rw [Hres.out]; rfl, Hba.out⟩
  have h1' : ¬ (q.ws.length : Int) < 1 := by omega
  by_cases h2 : 6 < q.ws.length
  · have h2' : (6 : Int) < (q.ws.length : Int) := by omega
    have Hres : Hid (res = 64) := Lib.hid (by rw [Hv.out]; unfold planB; simp [show ¬ q.ws.length ≤ 6 by omega])
    go_wp2
    go_ret
    exact ⟨by rw [Hres.out]; rfl, Hba.out⟩
  have h2' : ¬ (6 : Int) < (q.ws.length : Int) := by omega
  have HC1 := Lib.hid (all_any 0 100 p.a1 q.ws.length p.c1 q.ws wa HA.out.s1 rfl)
  have HC2 := Lib.hid (all_any 1 60000 p.a2 q.ls.length p.c2 q.ls wa HA.out.s2 rfl)
  have HC3 := Lib.hid (all_any 0 1000 p.a3 q.ss.length p.c3 q.ss wa HA.out.s3 rfl)
  have Hn3 : Hid (q.ws.any (outP 0 100) = true → res = 64) := Lib.hid (fun h => by rw [Hv.out]; unfold planB; simp [h])
  have Hn4 : Hid (q.ls.any (outP 1 60000) = true → res = 64) := Lib.hid (fun h => by rw [Hv.out]; unfold planB; simp [h])
  have Hn5 : Hid (q.ss.any (outP 0 1000) = true → res = 64) := Lib.hid (fun h => by rw [Hv.out]; unfold planB; simp [h])
  have HW : Hid (1 ≤ q.ws.length ∧ q.ws.length ≤ 6) := Lib.hid (by omega)
  obtain ⟨b3, hb3⟩ : ∃ b3, q.ws.any (outP 0 100) = b3 := ⟨_, rfl⟩
  rw [hb3] at HC1 Hn3
  have Hb3 := Lib.hid hb3
  clear hb3
  obtain ⟨b4, hb4⟩ : ∃ b4, q.ls.any (outP 1 60000) = b4 := ⟨_, rfl⟩
  rw [hb4] at HC2 Hn4
  have Hb4 := Lib.hid hb4
  clear hb4
  obtain ⟨b5, hb5⟩ : ∃ b5, q.ss.any (outP 0 1000) = b5 := ⟨_, rfl⟩
  rw [hb5] at HC3 Hn5
  have Hb5 := Lib.hid hb5
  clear hb5
  go_wp2_with fail
  refine HC1.out.mono ?_
  rintro e w1 ⟨rfl, rfl⟩
  clear HC1
  cases b3 with
  | true =>
    have Hres := Lib.hid (Hn3.out rfl)
    clear Hn3 Hn4 Hn5 Hb3 Hb4 Hb5 HC2 HC3
    simp only [Bool.not_true]
    go_wp2
    go_ret
    exact ⟨by rw [Hres.out]; rfl, Hba.out⟩
  | false =>
  clear Hn3
  simp only [Bool.not_false]
  by_cases h3 : 5 < q.ls.length
  · have h3' : (5 : Int) < (q.ls.length : Int) := by omega
    have Hres : Hid (res = 64) := Lib.hid (by rw [Hv.out]; unfold planB; simp [show ¬ q.ls.length ≤ 5 by omega])
    go_wp2
    go_ret
    exact ⟨by rw [Hres.out]; rfl, Hba.out⟩
  have h3' : ¬ (5 : Int) < (q.ls.length : Int) := by omega
  have hwl : IntKind.i64.wrap ((q.ls.length : Int) + 1) = (q.ls.length : Int) + 1 := IntWalk.i64_in _ (by omega)
  go_wp2_with fail
  refine HC2.out.mono ?_
  rintro e w2 ⟨rfl, rfl⟩
  clear HC2
  cases b4 with
  | true =>
    have Hres := Lib.hid (Hn4.out rfl)
    clear Hn4 Hn5 Hb3 Hb4 Hb5 HC3
    simp only [Bool.not_true]
    go_wp2
    go_ret
    exact ⟨by rw [Hres.out]; rfl, Hba.out⟩
  | false =>
  clear Hn4
  simp only [Bool.not_false]
  by_cases h5n : ¬ (q.ss.length : Int) = (q.ls.length : Int) + 1
  · have Hres : Hid (res = 64) := Lib.hid (by rw [Hv.out]; unfold planB; simp [show ¬ q.ss.length = q.ls.length + 1 by omega])
    clear Hn5 Hb3 Hb4 Hb5 HC3
    go_wp2
    go_ret
    exact ⟨by rw [Hres.out]; rfl, Hba.out⟩
  have h5 := Decidable.not_not.1 h5n
  clear h5n
  go_wp2_with fail
  refine HC3.out.mono ?_
  rintro e w3 ⟨rfl, rfl⟩
  clear HC3
  have H5 := Lib.hid h5
  clear h5
  cases b5 with
  | true =>
    have Hres := Lib.hid (Hn5.out rfl)
    clear Hn5 Hb3 Hb4 Hb5
    simp only [Bool.not_true]
    go_wp2
    go_ret
    exact ⟨by rw [Hres.out]; rfl, Hba.out⟩
  | false =>
  clear Hn5
  simp only [Bool.not_false]
  by_cases h6 : q.le < 0
  · have Hres : Hid (res = 64) := Lib.hid (by rw [Hv.out]; unfold planB; simp [show outP 0 60 q.le = true by simp [outP, h6]])
    clear Hb3 Hb4 Hb5
    go_wp2
    go_ret
    exact ⟨by rw [Hres.out]; rfl, Hba.out⟩
  by_cases h7 : 60 < q.le
  · have Hres : Hid (res = 64) := Lib.hid (by rw [Hv.out]; unfold planB; simp [show outP 0 60 q.le = true by simp [outP, h7]])
    clear Hb3 Hb4 Hb5
    go_wp2
    go_ret
    exact ⟨by rw [Hres.out]; rfl, Hba.out⟩
  by_cases h8 : q.ra < 0
  · have Hres : Hid (res = 64) := Lib.hid (by rw [Hv.out]; unfold planB; simp [show outP 0 1000 q.ra = true by simp [outP, h8]])
    clear Hb3 Hb4 Hb5
    go_wp2
    go_ret
    exact ⟨by rw [Hres.out]; rfl, Hba.out⟩
  by_cases h9 : 1000 < q.ra
  · have Hres : Hid (res = 64) := Lib.hid (by rw [Hv.out]; unfold planB; simp [show outP 0 1000 q.ra = true by simp [outP, h9]])
    clear Hb3 Hb4 Hb5
    go_wp2
    go_ret
    exact ⟨by rw [Hres.out]; rfl, Hba.out⟩
  have Hres : Hid (res = if ascN q.ls q.ls.length then 0 else 64) := Lib.hid (by rw [Hv.out]; unfold planB; rw [show outP 0 60 q.le = false by simp [outP]; omega, show outP 0 1000 q.ra = false by simp [outP]; omega, Hb3.out, Hb4.out, Hb5.out, decide_eq_true (show 1 ≤ q.ws.length by omega), decide_eq_true (show q.ws.length ≤ 6 by omega), decide_eq_true (show q.ls.length ≤ 5 by omega), decide_eq_true (show q.ss.length = q.ls.length + 1 by have := H5.out; omega)]; simp)
  clear Hb3 Hb4 Hb5 Hv
  go_upto_region 3 with fail
  go_wp2_with fail
  go_loopw [3] (fun i wr => ∃ k : Nat, 1 ≤ k ∧ (k ≤ q.ls.length ∨ k = 1) ∧ i = .int .i64 (k : Int) ∧ Hid (ascN q.ls k = true) ∧ Below w3.heap.size w3 wr) (fun i _ => q.ls.length - (intOf i).toNat)
  case atStart => exact ⟨1, Nat.le_refl _, .inr rfl, rfl, Lib.hid rfl, Below.refl _ _⟩
  case round =>
    obtain ⟨k, h1, hk, rfl, Hasc, hbw⟩ := hrel
    have e1 := cell_of_row wr w.heap.size 1 _ _ _ ((hbw.block _ hl).trans Hr.out)
    have e1d : wr.drew.cell? ⟨w.heap.size, 1, none⟩ = some (.slice p.a2 q.ls.length p.c2) := e1
    have Hbw := Lib.hid hbw
    by_cases hkn : k < q.ls.length
    · have hkn' : (k : Int) < (q.ls.length : Int) := by omega
      obtain ⟨j, hj⟩ : ∃ j, k = j + 1 := ⟨k - 1, by omega⟩
      have ej : IntKind.i64.wrap ((k : Int) - 1) = (j : Int) := by rw [IntWalk.i64_in _ (by omega)]; omega
      have hjn : j < q.ls.length := by omega
      have hjn' : (j : Int) < (q.ls.length : Int) := by omega
      obtain ⟨b, off, hAe, hb, ck⟩ := (HA.out.s2.below hbw).at k hkn
      obtain ⟨b', off', hAe', _, cj⟩ := (HA.out.s2.below hbw).at j hjn
      obtain ⟨rfl, rfl⟩ : b' = b ∧ off' = off := by
        have := hAe'.symm.trans hAe
        injection this with h
        injection h with ha hb2
        exact ⟨ha, hb2⟩
      rw [hAe] at e1 e1d
      have Hbad : Hid (q.ls[k] ≤ q.ls[j] → ascN q.ls q.ls.length = false) := Lib.hid (fun h => ascN_bad hkn (by omega) (by rw [List.getD_eq_getElem?_getD, List.getD_eq_getElem?_getD, show k - 1 = j by omega, List.getElem?_eq_getElem hkn, List.getElem?_eq_getElem hjn]; simp; omega))
      have Hnx : Hid (¬ q.ls[k] ≤ q.ls[j] → ascN q.ls (k + 1) = true) := Lib.hid (fun h => by rw [ascN_succ, Hasc.out, List.getD_eq_getElem?_getD, List.getD_eq_getElem?_getD, show k - 1 = j by omega, List.getElem?_eq_getElem hkn, List.getElem?_eq_getElem hjn]; simp; omega)
      have Hj := Lib.hid hj
      clear hAe hAe' hj
      generalize q.ls[k] = y at *
      generalize q.ls[j] = x at *
      by_cases hyx : y ≤ x
      · have Hres2 : Hid (res = 64) := Lib.hid (by rw [Hres.out, Hbad.out hyx]; rfl)
        clear Hbad Hnx
        go_wp2_with fail
        go_quiet (fail)
        go_wp2
        go_ret
        exact ⟨by rw [Hres2.out]; rfl, (have hba := Hba.out.trans (Hbw.out.mono (Nat.le_of_lt hl)); (by repeat' (first | with_reducible exact Below.refl _ _ | with_reducible assumption | with_reducible refine below_drewN ?_ _ | with_reducible refine Below.drew ?_ | with_reducible refine Below.alloc ?_ ?_ _ | with_reducible refine Below.setCell ?_ ?_ _ | with_reducible refine Below.trans ?_ (Below.mono (by with_reducible assumption) ?_) | with_reducible refine below_only ?_ (by with_reducible assumption) ?_ ?_ | (simp; done) | (simp; omega) | omega)))⟩
      · have Hasc2 := Lib.hid (Hnx.out hyx)
        clear Hbad Hnx
        go_wp2_with fail
        go_quiet (fail)
        go_wp2
        go_roundw
        case rel => exact ⟨k + 1, by omega, by omega, by go_num, Hasc2, (have hba := Hbw.out; (by repeat' (first | with_reducible exact Below.refl _ _ | with_reducible assumption | with_reducible refine below_drewN ?_ _ | with_reducible refine Below.drew ?_ | with_reducible refine Below.alloc ?_ ?_ _ | with_reducible refine Below.setCell ?_ ?_ _ | with_reducible refine Below.trans ?_ (Below.mono (by with_reducible assumption) ?_) | with_reducible refine below_only ?_ (by with_reducible assumption) ?_ ?_ | (simp; done) | (simp; omega) | omega)))⟩
        case measure => simp [intOf]; omega
    · have hkn' : ¬ (k : Int) < (q.ls.length : Int) := by omega
      have Hres2 : Hid (res = 0) := Lib.hid (by
        rw [Hres.out]
        have : ascN q.ls q.ls.length = true := by
          rcases hk with hk | hk
          · rw [show q.ls.length = k by omega]; exact Hasc.out
          · rcases Nat.eq_zero_or_pos q.ls.length with h0 | h0
            · rw [h0]; rfl
            · rw [show q.ls.length = k by omega]; exact Hasc.out
        rw [this]; rfl)
      go_wp2
      go_ret
      exact ⟨by rw [Hres2.out]; rfl, (have hba := Hba.out.trans (Hbw.out.mono (Nat.le_of_lt hl)); (by repeat' (first | with_reducible exact Below.refl _ _ | with_reducible assumption | with_reducible refine below_drewN ?_ _ | with_reducible refine Below.drew ?_ | with_reducible refine Below.alloc ?_ ?_ _ | with_reducible refine Below.setCell ?_ ?_ _ | with_reducible refine Below.trans ?_ (Below.mono (by with_reducible assumption) ?_) | with_reducible refine below_only ?_ (by with_reducible assumption) ?_ ?_ | (simp; done) | (simp; omega) | omega)))⟩
end Go.Proofs.Ytjmbdfoegnfpnaa
