/- Contracts of the reference (layer 4): combine, Union, Both, Without, Within, Meets (printed by genV3.py). -/
import Derived.Test.YtglanlpjoaholaaGreatV2
import Derived.Test.YtglanlpjoaholaaGreatU7
namespace Go.Proofs.YtglanlpjoaholaaGreat
open Go.RowKit
set_option linter.unusedVariables false
set_option linter.unusedSimpArgs false

theorem howR1 : howR 1 = orB := by funext x y; rfl
theorem howR2 : howR 2 = andB := by funext x y; rfl
theorem howR3 : howR 3 = notB := by funext x y; rfl

set_option maxHeartbeats 8000000 in
set_option maxRecDepth 100000 in
theorem combineRR_any (A B : Option Addr) (n c m d : Nat) (kk : Int) (a b : List R4) (w : World) (hA : SlR w A n c a) (hB : SlR w B m d b) :
    Calls Tryz.prog 55 #[.agg #[.slice A n c], .agg #[.slice B m d], .int .i64 kk] w (RegPost w (combineP (howR kk) a b)) := by
  have hna := hA.len
  have hnb := hB.len
  have HA := Lib.hid hA
  have HB := Lib.hid hB
  have HVa := Lib.hid (fun W (hW : Below w.heap.size w W) => validR_any A n c a W (HA.out.below hW))
  have HVb := Lib.hid (fun W (hW : Below w.heap.size w W) => validR_any B m d b W (HB.out.below hW))
  have Hx : Hid (combineP (howR kk) a b = if validP a && validP b then (if 120 < (chooseP (howR kk) a b).length then ([], 1) else (chooseP (howR kk) a b, 0)) else ([], 7)) := Lib.hid rfl
  have Hva : Hid (validP a = true → (n ≤ 750 ∧ ∀ q ∈ a, q.l < q.r)) := Lib.hid (fun h => by
    unfold validP at h
    simp only [Bool.and_eq_true, decide_eq_true_eq] at h
    exact ⟨by omega, ok_pos h.1.2⟩)
  have Hvb : Hid (validP b = true → (m ≤ 750 ∧ ∀ q ∈ b, q.l < q.r)) := Lib.hid (fun h => by
    unfold validP at h
    simp only [Bool.and_eq_true, decide_eq_true_eq] at h
    exact ⟨by omega, ok_pos h.1.2⟩)
  generalize combineP (howR kk) a b = res at *
  clear hA hB
  obtain ⟨va, hva⟩ : ∃ va, validP a = va := ⟨_, rfl⟩
  obtain ⟨vb, hvb⟩ : ∃ vb, validP b = vb := ⟨_, rfl⟩
  rw [hva] at HVa Hx Hva
  rw [hvb] at HVb Hx Hvb
  clear hva hvb
  cases va with
  | false =>
    have e0 : res = ([], 7) := by rw [Hx.out]; rfl
    subst e0
    go_enter Tryz.func55, Tryz.ntmps55
    go_upto_region 1 with fail
    obtain ⟨w1, hw1⟩ : ∃ w1 : World, w1 = ((w.alloc (.cells #[.slice A n c] 33)).alloc (.cells #[.slice B m d] 33)).alloc (.cells #[.slice none 0 0] 33) := ⟨_, rfl⟩
    rw [← hw1]
    have Hb1 : Hid (Bx3 w w1 A n c B m d) := Lib.hid (by rw [hw1]; exact Bx3.make w A n c B m d)
    clear hw1
    have c0 := Hb1.out.c0
    have c1 := Hb1.out.c1
    go_wp2_with (first
      | (go_at_call 41
         refine (HVa.out _ Hb1.out.low).mono ?_
         rintro e w2 ⟨rfl, hb2⟩
         have Hb2 := Lib.hid (Hb1.out.below hb2)
         have c02 := Hb2.out.c0
         have c12 := Hb2.out.c1
         have c22 := Hb2.out.c2
         have f22 := Hb2.out.f2
         have csame := Hb2.out.put (.slice none 0 0)
         clear hb2)
      | fail)
    refine bodyPost_ret (v := .tuple #[.agg #[.slice none 0 0], .int .i64 7]) (by simp [results, Tryz.results55, go_sem, *]) rfl ?_
    exact ⟨_, rfl, World.ownsRow_nil _ _ _ _, Hb2.out.low.setCell (by show w.heap.size ≤ w.heap.size + 1 + 1; omega) _⟩
  | true =>
    obtain ⟨hn7, ha⟩ := Hva.out rfl
    have Ha := Lib.hid ha
    clear ha Hva
    cases vb with
    | false =>
      have e0 : res = ([], 7) := by rw [Hx.out]; rfl
      subst e0
      go_enter Tryz.func55, Tryz.ntmps55
      go_upto_region 1 with fail
      obtain ⟨w1, hw1⟩ : ∃ w1 : World, w1 = ((w.alloc (.cells #[.slice A n c] 33)).alloc (.cells #[.slice B m d] 33)).alloc (.cells #[.slice none 0 0] 33) := ⟨_, rfl⟩
      rw [← hw1]
      have Hb1 : Hid (Bx3 w w1 A n c B m d) := Lib.hid (by rw [hw1]; exact Bx3.make w A n c B m d)
      clear hw1
      have c0 := Hb1.out.c0
      have c1 := Hb1.out.c1
      go_wp2_with (first
        | (go_at_call_of 41 (Value.slice A n c)
           refine (HVa.out _ Hb1.out.low).mono ?_
           rintro e w2 ⟨rfl, hb2⟩
           have Hb2 := Lib.hid (Hb1.out.below hb2)
           have c02 := Hb2.out.c0
           have c12 := Hb2.out.c1
           clear hb2)
        | (go_at_call_of 41 (Value.slice B m d)
           refine (HVb.out _ Hb2.out.low).mono ?_
           rintro e w3 ⟨rfl, hb3⟩
           have Hb3 := Lib.hid (Hb2.out.below hb3)
           have c03 := Hb3.out.c0
           have c13 := Hb3.out.c1
           have c23 := Hb3.out.c2
           have f23 := Hb3.out.f2
           have csame := Hb3.out.put (.slice none 0 0)
           clear hb3)
        | fail)
      refine bodyPost_ret (v := .tuple #[.agg #[.slice none 0 0], .int .i64 7]) (by simp [results, Tryz.results55, go_sem, *]) rfl ?_
      exact ⟨_, rfl, World.ownsRow_nil _ _ _ _, Hb3.out.low.setCell (by show w.heap.size ≤ w.heap.size + 1 + 1; omega) _⟩
    | true =>
      obtain ⟨hm7, hb⟩ := Hvb.out rfl
      have Hbp := Lib.hid hb
      clear hb Hvb
      have HC := Lib.hid (fun W (hW : Below w.heap.size w W) => combineR_any A B n c m d a b kk W (HA.out.below hW) (HB.out.below hW) (by omega))
      rw [← choose_comb (howR kk) (howR_no kk) a b Ha.out Hbp.out] at HC
      have Hx2 : Hid (res = if 120 < (chooseP (howR kk) a b).length then ([], 1) else (chooseP (howR kk) a b, 0)) := Lib.hid (by rw [Hx.out]; rfl)
      clear Hx
      generalize chooseP (howR kk) a b = cl at *
      by_cases hbg : 120 < cl.length
      · have e0 : res = ([], 1) := by rw [Hx2.out, if_pos hbg]
        subst e0
        go_enter Tryz.func55, Tryz.ntmps55
        go_upto_region 1 with fail
        obtain ⟨w1, hw1⟩ : ∃ w1 : World, w1 = ((w.alloc (.cells #[.slice A n c] 33)).alloc (.cells #[.slice B m d] 33)).alloc (.cells #[.slice none 0 0] 33) := ⟨_, rfl⟩
        rw [← hw1]
        have Hb1 : Hid (Bx3 w w1 A n c B m d) := Lib.hid (by rw [hw1]; exact Bx3.make w A n c B m d)
        clear hw1
        have c0 := Hb1.out.c0
        have c1 := Hb1.out.c1
        go_wp2_with (first
          | (go_at_call_of 41 (Value.slice A n c)
             refine (HVa.out _ Hb1.out.low).mono ?_
             rintro e w2 ⟨rfl, hb2⟩
             have Hb2 := Lib.hid (Hb1.out.below hb2)
             have c02 := Hb2.out.c0
             have c12 := Hb2.out.c1
             clear hb2)
          | (go_at_call_of 41 (Value.slice B m d)
             refine (HVb.out _ Hb2.out.low).mono ?_
             rintro e w3 ⟨rfl, hb3⟩
             have Hb3 := Lib.hid (Hb2.out.below hb3)
             have c03 := Hb3.out.c0
             have c13 := Hb3.out.c1
             clear hb3)
          | (go_at_call 36
             refine (HC.out _ Hb3.out.low).mono ?_
             rintro e w4 ⟨v4, rfl, hown4, hb4⟩
             obtain ⟨D, dc, rfl, _⟩ := SlR.of_own hown4
             have Hb4 := Lib.hid (Hb3.out.below hb4)
             clear hown4 hb4)
          | (go_at_call 61
             refine (boundR_big D cl.length dc _ hbg).mono ?_
             rintro e w5 ⟨rfl, hb5⟩
             have Hb5 := Lib.hid (Hb4.out.below hb5)
             have c25 := Hb5.out.c2
             have f25 := Hb5.out.f2
             have csame := Hb5.out.put (.slice none 0 0)
             clear hb5)
          | fail)
        refine bodyPost_ret (v := .tuple #[.agg #[.slice none 0 0], .int .i64 1]) (by simp [results, Tryz.results55, go_sem, *]) rfl ?_
        exact ⟨_, rfl, World.ownsRow_nil _ _ _ _, Hb5.out.low.setCell (by show w.heap.size ≤ w.heap.size + 1 + 1; omega) _⟩
      · have hbg' : cl.length ≤ 120 := by omega
        have e0 : res = (cl, 0) := by rw [Hx2.out, if_neg hbg]
        subst e0
        go_enter Tryz.func55, Tryz.ntmps55
        go_upto_region 1 with fail
        obtain ⟨w1, hw1⟩ : ∃ w1 : World, w1 = ((w.alloc (.cells #[.slice A n c] 33)).alloc (.cells #[.slice B m d] 33)).alloc (.cells #[.slice none 0 0] 33) := ⟨_, rfl⟩
        rw [← hw1]
        have Hb1 : Hid (Bx3 w w1 A n c B m d) := Lib.hid (by rw [hw1]; exact Bx3.make w A n c B m d)
        clear hw1
        have c0 := Hb1.out.c0
        have c1 := Hb1.out.c1
        go_wp2_with (first
          | (go_at_call_of 41 (Value.slice A n c)
             refine (HVa.out _ Hb1.out.low).mono ?_
             rintro e w2 ⟨rfl, hb2⟩
             have Hb2 := Lib.hid (Hb1.out.below hb2)
             have c02 := Hb2.out.c0
             have c12 := Hb2.out.c1
             clear hb2)
          | (go_at_call_of 41 (Value.slice B m d)
             refine (HVb.out _ Hb2.out.low).mono ?_
             rintro e w3 ⟨rfl, hb3⟩
             have Hb3 := Lib.hid (Hb2.out.below hb3)
             have c03 := Hb3.out.c0
             have c13 := Hb3.out.c1
             clear hb3)
          | (go_at_call 36
             refine (HC.out _ Hb3.out.low).mono ?_
             rintro e w4 ⟨v4, rfl, hown4, hb4⟩
             obtain ⟨D, dc, rfl, _⟩ := SlR.of_own hown4
             have Hown4 := Lib.hid hown4
             have Hb4 := Lib.hid (Hb3.out.below hb4)
             clear hown4 hb4)
          | (go_at_call 61
             refine (boundR_ok D cl.length dc _ hbg').mono ?_
             rintro e w5 ⟨rfl, hb5⟩
             have Hb5 := Lib.hid (Hb4.out.below hb5)
             have Hown5 := Lib.hid (ownsRow_below Hown4.out hb5)
             have c25 := Hb5.out.c2
             have f25 := Hb5.out.f2
             have csame := Hb5.out.put (.slice D cl.length dc)
             clear hb5)
          | fail)
        refine bodyPost_ret (v := .tuple #[.agg #[.slice D cl.length dc], .int .i64 0]) (by simp [results, Tryz.results55, go_sem, *]) rfl ?_
        exact ⟨_, rfl, own_rebase (ownsRow_setCell_below Hown5.out (a := ⟨w.heap.size + 1 + 1, 0, none⟩) Hb3.out.size _) (Nat.le_trans Hb3.out.low.size (Nat.le_refl _)), Hb5.out.low.setCell (by show w.heap.size ≤ w.heap.size + 1 + 1; omega) _⟩

set_option maxHeartbeats 2000000 in
set_option maxRecDepth 100000 in
theorem bothR_any (A B : Option Addr) (n c m d : Nat) (a b : List R4) (w : World) (hA : SlR w A n c a) (hB : SlR w B m d b) :
    Calls Tryz.prog 23 #[.agg #[.slice A n c], .agg #[.slice B m d]] w (RegPost w (combineP andB a b)) := by
  have HA := Lib.hid hA
  have HB := Lib.hid hB
  have HC := Lib.hid (fun W (hW : Below w.heap.size w W) => combineRR_any A B n c m d 2 a b W (HA.out.below hW) (HB.out.below hW))
  rw [howR2] at HC
  generalize combineP andB a b = res at *
  obtain ⟨cl, er⟩ := res
  clear hA hB
  go_enter Tryz.func23, Tryz.ntmps23
  go_upto_region 1 with fail
  obtain ⟨w1, hw1⟩ : ∃ w1 : World, w1 = ((w.alloc (.cells #[.slice A n c] 33)).alloc (.cells #[.slice B m d] 33)).alloc (.cells #[.slice none 0 0] 33) := ⟨_, rfl⟩
  rw [← hw1]
  have Hb1 : Hid (Bx3 w w1 A n c B m d) := Lib.hid (by rw [hw1]; exact Bx3.make w A n c B m d)
  clear hw1
  have c0 := Hb1.out.c0
  have c1 := Hb1.out.c1
  go_wp2_with (first
    | (go_at_call 55
       refine (HC.out _ Hb1.out.low).mono ?_
       rintro e w2 ⟨v2, rfl, hown2, hb2⟩
       obtain ⟨D, dc, rfl, _⟩ := SlR.of_own hown2
       have Hb2 := Lib.hid (Hb1.out.below hb2)
       have Hown2 := Lib.hid hown2
       have c22 := Hb2.out.c2
       have f22 := Hb2.out.f2
       have csame := Hb2.out.put (.slice D cl.length dc)
       clear hown2 hb2)
    | fail)
  refine bodyPost_ret (v := .tuple #[.agg #[.slice D cl.length dc], .int .i64 er]) (by simp [results, Tryz.results23, go_sem, *]) rfl ?_
  exact ⟨_, rfl, own_rebase (ownsRow_setCell_below Hown2.out (a := ⟨w.heap.size + 1 + 1, 0, none⟩) Hb1.out.size _) Hb1.out.low.size, Hb2.out.low.setCell (by show w.heap.size ≤ w.heap.size + 1 + 1; omega) _⟩
set_option maxHeartbeats 8000000 in
set_option maxRecDepth 100000 in
theorem withinR_any (A B : Option Addr) (n c m d : Nat) (a b : List R4) (w : World) (hA : SlR w A n c a) (hB : SlR w B m d b) :
    Calls Tryz.prog 14 #[.agg #[.slice A n c], .agg #[.slice B m d]] w fun e w' => e = .returned (.bool (withinP a b)) ∧ Below w.heap.size w w' := by
  have hna := hA.len
  have hnb := hB.len
  have HA := Lib.hid hA
  have HB := Lib.hid hB
  have HVa := Lib.hid (fun W (hW : Below w.heap.size w W) => validR_any A n c a W (HA.out.below hW))
  have HVb := Lib.hid (fun W (hW : Below w.heap.size w W) => validR_any B m d b W (HB.out.below hW))
  have Hx : Hid (withinP a b = (validP a && validP b && decide ((chooseP notB a b).length = 0))) := Lib.hid rfl
  have Hva : Hid (validP a = true → (n ≤ 750 ∧ ∀ q ∈ a, q.l < q.r)) := Lib.hid (fun h => by
    unfold validP at h
    simp only [Bool.and_eq_true, decide_eq_true_eq] at h
    exact ⟨by omega, ok_pos h.1.2⟩)
  have Hvb : Hid (validP b = true → (m ≤ 750 ∧ ∀ q ∈ b, q.l < q.r)) := Lib.hid (fun h => by
    unfold validP at h
    simp only [Bool.and_eq_true, decide_eq_true_eq] at h
    exact ⟨by omega, ok_pos h.1.2⟩)
  generalize withinP a b = res at *
  obtain ⟨va, hva⟩ : ∃ va, validP a = va := ⟨_, rfl⟩
  obtain ⟨vb, hvb⟩ : ∃ vb, validP b = vb := ⟨_, rfl⟩
  rw [hva] at HVa Hx Hva
  rw [hvb] at HVb Hx Hvb
  clear hva hvb
  go_enter Tryz.func14, Tryz.ntmps14
  go_upto_region 1 with fail
  obtain ⟨w1, hw1⟩ : ∃ w1 : World, w1 = (w.alloc (.cells #[.slice A n c] 33)).alloc (.cells #[.slice B m d] 33) := ⟨_, rfl⟩
  rw [← hw1]
  have HL1 : Hid (RBs w1 [⟨w.heap.size + 1, B, m, d, b⟩, ⟨w.heap.size, A, n, c, a⟩]) := Lib.hid (by rw [hw1]; exact RBs.two w A B n c m d a b hA hB)
  have Hb1 : Hid (Below w.heap.size w w1) := Lib.hid (by rw [hw1]; exact (by repeat' (first | with_reducible exact Below.refl _ _ | with_reducible refine below_drewN ?_ _ | with_reducible refine Below.drew ?_ | with_reducible refine Below.alloc ?_ ?_ _ | with_reducible refine Below.setCell ?_ ?_ _ | with_reducible refine Below.trans ?_ (Below.mono (by with_reducible assumption) ?_) | (simp; done) | (simp; omega) | omega)))
  have hs1 := Hb1.out.size
  have c0 : w1.cell? ⟨w.heap.size, 0, none⟩ = some (.slice A n c) := (HL1.out _ (.tail _ (.head _))).c0
  have c1 : w1.cell? ⟨w.heap.size + 1, 0, none⟩ = some (.slice B m d) := (HL1.out _ (.head _)).c0
  clear hw1 hA hB
  cases va with
  | false =>
    have e0 : res = false := by rw [Hx.out]; rfl
    subst e0
    go_wp2_with (first
      | (go_at_call 41
         refine (HVa.out _ Hb1.out).mono ?_
         rintro e w2 ⟨rfl, hb2⟩
         have Hb2 : Hid (Below w.heap.size w w2) := Lib.hid (Hb1.out.trans (hb2.mono hs1))
         clear hb2)
      | fail)
    go_ret
    exact ⟨rfl, Hb2.out⟩
  | true =>
    obtain ⟨hn7, ha⟩ := Hva.out rfl
    have Ha := Lib.hid ha
    clear ha Hva
    cases vb with
    | false =>
      have e0 : res = false := by rw [Hx.out]; rfl
      subst e0
      go_wp2_with (first
        | (go_at_call_of 41 (Value.slice A n c)
           refine (HVa.out _ Hb1.out).mono ?_
           rintro e w2 ⟨rfl, hb2⟩
           have Hb2 : Hid (Below w.heap.size w w2) := Lib.hid (Hb1.out.trans (hb2.mono hs1))
           have c02 : w2.cell? ⟨w.heap.size, 0, none⟩ = some (.slice A n c) := ((HL1.out.below hb2) _ (.tail _ (.head _))).c0
           have c12 : w2.cell? ⟨w.heap.size + 1, 0, none⟩ = some (.slice B m d) := ((HL1.out.below hb2) _ (.head _)).c0
           clear hb2)
        | (go_at_call_of 41 (Value.slice B m d)
           refine (HVb.out _ Hb2.out).mono ?_
           rintro e w3 ⟨rfl, hb3⟩
           have Hb3 : Hid (Below w.heap.size w w3) := Lib.hid (Hb2.out.trans (hb3.mono Hb2.out.size))
           clear hb3)
        | fail)
      go_ret
      exact ⟨rfl, Hb3.out⟩
    | true =>
      obtain ⟨hm7, hb⟩ := Hvb.out rfl
      have Hbp := Lib.hid hb
      clear hb Hvb
      have HC := Lib.hid (fun W (hW : Below w.heap.size w W) => combineR_any A B n c m d a b 3 W (HA.out.below hW) (HB.out.below hW) (by omega))
      rw [← choose_comb (howR 3) (howR_no 3) a b Ha.out Hbp.out, howR3] at HC
      have Hx2 : Hid (res = decide ((chooseP notB a b).length = 0)) := Lib.hid (by rw [Hx.out]; rfl)
      clear Hx
      generalize chooseP notB a b = cl at *
      obtain ⟨N, hN⟩ : ∃ N, cl.length = N := ⟨_, rfl⟩
      have HN := Lib.hid hN
      rw [hN] at Hx2
      have hN9 : N = 0 ∨ ¬ N = 0 := by omega
      clear hN
      rcases hN9 with hN0 | hN0
      all_goals
        first
          | (have e0 : res = true := by rw [Hx2.out, decide_eq_true hN0])
          | (have e0 : res = false := by rw [Hx2.out, decide_eq_false hN0])
        subst e0
        have hNd : ((N : Int) == 0) = decide (N = 0) := by rw [Bool.eq_iff_iff]; simp
        try (have hNi : ¬ (N : Int) = 0 := by omega)
        go_wp2_with (first
          | (go_at_call_of 41 (Value.slice A n c)
             refine (HVa.out _ Hb1.out).mono ?_
             rintro e w2 ⟨rfl, hb2⟩
             have Hb2 : Hid (Below w.heap.size w w2) := Lib.hid (Hb1.out.trans (hb2.mono hs1))
             have HL2 := Lib.hid (HL1.out.below hb2)
             have c02 : w2.cell? ⟨w.heap.size, 0, none⟩ = some (.slice A n c) := (HL2.out _ (.tail _ (.head _))).c0
             have c12 : w2.cell? ⟨w.heap.size + 1, 0, none⟩ = some (.slice B m d) := (HL2.out _ (.head _)).c0
             clear hb2)
          | (go_at_call_of 41 (Value.slice B m d)
             refine (HVb.out _ Hb2.out).mono ?_
             rintro e w3 ⟨rfl, hb3⟩
             have Hb3 : Hid (Below w.heap.size w w3) := Lib.hid (Hb2.out.trans (hb3.mono Hb2.out.size))
             have HL3 := Lib.hid (HL2.out.below hb3)
             have c03 : w3.cell? ⟨w.heap.size, 0, none⟩ = some (.slice A n c) := (HL3.out _ (.tail _ (.head _))).c0
             have c13 : w3.cell? ⟨w.heap.size + 1, 0, none⟩ = some (.slice B m d) := (HL3.out _ (.head _)).c0
             clear hb3)
          | (go_at_call 36
             refine (HC.out _ Hb3.out).mono ?_
             rintro e w4 ⟨v4, rfl, hown4, hb4⟩
             obtain ⟨E, ec, rfl, _⟩ := SlR.of_own hown4
             rw [HN.out]
             have Hb4 : Hid (Below w.heap.size w w4) := Lib.hid (Hb3.out.trans (hb4.mono Hb3.out.size))
             clear hown4 hb4)
          | fail)
        go_ret
        exact ⟨by simp [hN0], Hb4.out⟩

theorem meets_len (a b : List R4) : meetsP a b = (validP a && validP b && decide (0 < (chooseP andB a b).length)) := by
  unfold meetsP
  cases ha : validP a with
  | false => rfl
  | true =>
    cases hb : validP b with
    | false => rfl
    | true =>
      have hin : ∀ l, validP l = true → InS 268435456 l := fun l h q hq => by
        unfold validP at h
        simp only [Bool.and_eq_true, decide_eq_true_eq] at h
        have := List.all_eq_true.1 h.1.2 q hq
        simp [R4.ok] at this
        omega
      have ia := hin a ha
      have ib := hin b hb
      have hn := choose_nil (how := andB) rfl ia ib
      have ho := over_some ia ib
      rw [Bool.true_and, Bool.true_and, Bool.true_and]
      refine bool_eq ?_
      rw [ho, decide_eq_true_eq, List.length_pos_iff]
      constructor
      · rintro ⟨x, y, h⟩ h'
        have := hn.1 h' x y
        unfold andB at this
        rw [h] at this; cases this
      · intro h
        refine Classical.byContradiction fun hc => h (hn.2 fun x y => ?_)
        cases hx : andB (inL a x y) (inL b x y) with
        | false => rfl
        | true => exact absurd ⟨x, y, hx⟩ hc
set_option maxHeartbeats 8000000 in
set_option maxRecDepth 100000 in
theorem meetsR_any (A B : Option Addr) (n c m d : Nat) (a b : List R4) (w : World) (hA : SlR w A n c a) (hB : SlR w B m d b) :
    Calls Tryz.prog 15 #[.agg #[.slice A n c], .agg #[.slice B m d]] w fun e w' => e = .returned (.bool (meetsP a b)) ∧ Below w.heap.size w w' := by
  have hna := hA.len
  have hnb := hB.len
  have HA := Lib.hid hA
  have HB := Lib.hid hB
  have HVa := Lib.hid (fun W (hW : Below w.heap.size w W) => validR_any A n c a W (HA.out.below hW))
  have HVb := Lib.hid (fun W (hW : Below w.heap.size w W) => validR_any B m d b W (HB.out.below hW))
  have Hx : Hid (meetsP a b = (validP a && validP b && decide (0 < (chooseP andB a b).length))) := Lib.hid (meets_len a b)
  have Hva : Hid (validP a = true → (n ≤ 750 ∧ ∀ q ∈ a, q.l < q.r)) := Lib.hid (fun h => by
    unfold validP at h
    simp only [Bool.and_eq_true, decide_eq_true_eq] at h
    exact ⟨by omega, ok_pos h.1.2⟩)
  have Hvb : Hid (validP b = true → (m ≤ 750 ∧ ∀ q ∈ b, q.l < q.r)) := Lib.hid (fun h => by
    unfold validP at h
    simp only [Bool.and_eq_true, decide_eq_true_eq] at h
    exact ⟨by omega, ok_pos h.1.2⟩)
  generalize meetsP a b = res at *
  obtain ⟨va, hva⟩ : ∃ va, validP a = va := ⟨_, rfl⟩
  obtain ⟨vb, hvb⟩ : ∃ vb, validP b = vb := ⟨_, rfl⟩
  rw [hva] at HVa Hx Hva
  rw [hvb] at HVb Hx Hvb
  clear hva hvb
  go_enter Tryz.func15, Tryz.ntmps15
  go_upto_region 1 with fail
  obtain ⟨w1, hw1⟩ : ∃ w1 : World, w1 = (w.alloc (.cells #[.slice A n c] 33)).alloc (.cells #[.slice B m d] 33) := ⟨_, rfl⟩
  rw [← hw1]
  have HL1 : Hid (RBs w1 [⟨w.heap.size + 1, B, m, d, b⟩, ⟨w.heap.size, A, n, c, a⟩]) := Lib.hid (by rw [hw1]; exact RBs.two w A B n c m d a b hA hB)
  have Hb1 : Hid (Below w.heap.size w w1) := Lib.hid (by rw [hw1]; exact (by repeat' (first | with_reducible exact Below.refl _ _ | with_reducible refine below_drewN ?_ _ | with_reducible refine Below.drew ?_ | with_reducible refine Below.alloc ?_ ?_ _ | with_reducible refine Below.setCell ?_ ?_ _ | with_reducible refine Below.trans ?_ (Below.mono (by with_reducible assumption) ?_) | (simp; done) | (simp; omega) | omega)))
  have hs1 := Hb1.out.size
  have c0 : w1.cell? ⟨w.heap.size, 0, none⟩ = some (.slice A n c) := (HL1.out _ (.tail _ (.head _))).c0
  have c1 : w1.cell? ⟨w.heap.size + 1, 0, none⟩ = some (.slice B m d) := (HL1.out _ (.head _)).c0
  clear hw1 hA hB
  cases va with
  | false =>
    have e0 : res = false := by rw [Hx.out]; rfl
    subst e0
    go_wp2_with (first
      | (go_at_call 41
         refine (HVa.out _ Hb1.out).mono ?_
         rintro e w2 ⟨rfl, hb2⟩
         have Hb2 : Hid (Below w.heap.size w w2) := Lib.hid (Hb1.out.trans (hb2.mono hs1))
         clear hb2)
      | fail)
    go_ret
    exact ⟨rfl, Hb2.out⟩
  | true =>
    obtain ⟨hn7, ha⟩ := Hva.out rfl
    have Ha := Lib.hid ha
    clear ha Hva
    cases vb with
    | false =>
      have e0 : res = false := by rw [Hx.out]; rfl
      subst e0
      go_wp2_with (first
        | (go_at_call_of 41 (Value.slice A n c)
           refine (HVa.out _ Hb1.out).mono ?_
           rintro e w2 ⟨rfl, hb2⟩
           have Hb2 : Hid (Below w.heap.size w w2) := Lib.hid (Hb1.out.trans (hb2.mono hs1))
           have c02 : w2.cell? ⟨w.heap.size, 0, none⟩ = some (.slice A n c) := ((HL1.out.below hb2) _ (.tail _ (.head _))).c0
           have c12 : w2.cell? ⟨w.heap.size + 1, 0, none⟩ = some (.slice B m d) := ((HL1.out.below hb2) _ (.head _)).c0
           clear hb2)
        | (go_at_call_of 41 (Value.slice B m d)
           refine (HVb.out _ Hb2.out).mono ?_
           rintro e w3 ⟨rfl, hb3⟩
           have Hb3 : Hid (Below w.heap.size w w3) := Lib.hid (Hb2.out.trans (hb3.mono Hb2.out.size))
           clear hb3)
        | fail)
      go_ret
      exact ⟨rfl, Hb3.out⟩
    | true =>
      obtain ⟨hm7, hb⟩ := Hvb.out rfl
      have Hbp := Lib.hid hb
      clear hb Hvb
      have HC := Lib.hid (fun W (hW : Below w.heap.size w W) => combineR_any A B n c m d a b 2 W (HA.out.below hW) (HB.out.below hW) (by omega))
      rw [← choose_comb (howR 2) (howR_no 2) a b Ha.out Hbp.out, howR2] at HC
      have Hx2 : Hid (res = decide (0 < (chooseP andB a b).length)) := Lib.hid (by rw [Hx.out]; rfl)
      clear Hx
      generalize chooseP andB a b = cl at *
      obtain ⟨N, hN⟩ : ∃ N, cl.length = N := ⟨_, rfl⟩
      have HN := Lib.hid hN
      rw [hN] at Hx2
      have hN9 : 0 < N ∨ ¬ 0 < N := by omega
      clear hN
      rcases hN9 with hN0 | hN0
      all_goals
        first
          | (have e0 : res = true := by rw [Hx2.out, decide_eq_true hN0])
          | (have e0 : res = false := by rw [Hx2.out, decide_eq_false hN0])
        subst e0
        have hNd : decide ((0 : Int) < (N : Int)) = decide (0 < N) := by rw [Bool.eq_iff_iff]; simp
        try (have hNi : ¬ (0 : Int) < (N : Int) := by omega)
        try (have hNj : (0 : Int) < (N : Int) := by omega)
        go_wp2_with (first
          | (go_at_call_of 41 (Value.slice A n c)
             refine (HVa.out _ Hb1.out).mono ?_
             rintro e w2 ⟨rfl, hb2⟩
             have Hb2 : Hid (Below w.heap.size w w2) := Lib.hid (Hb1.out.trans (hb2.mono hs1))
             have HL2 := Lib.hid (HL1.out.below hb2)
             have c02 : w2.cell? ⟨w.heap.size, 0, none⟩ = some (.slice A n c) := (HL2.out _ (.tail _ (.head _))).c0
             have c12 : w2.cell? ⟨w.heap.size + 1, 0, none⟩ = some (.slice B m d) := (HL2.out _ (.head _)).c0
             clear hb2)
          | (go_at_call_of 41 (Value.slice B m d)
             refine (HVb.out _ Hb2.out).mono ?_
             rintro e w3 ⟨rfl, hb3⟩
             have Hb3 : Hid (Below w.heap.size w w3) := Lib.hid (Hb2.out.trans (hb3.mono Hb2.out.size))
             have HL3 := Lib.hid (HL2.out.below hb3)
             have c03 : w3.cell? ⟨w.heap.size, 0, none⟩ = some (.slice A n c) := (HL3.out _ (.tail _ (.head _))).c0
             have c13 : w3.cell? ⟨w.heap.size + 1, 0, none⟩ = some (.slice B m d) := (HL3.out _ (.head _)).c0
             clear hb3)
          | (go_at_call 36
             refine (HC.out _ Hb3.out).mono ?_
             rintro e w4 ⟨v4, rfl, hown4, hb4⟩
             obtain ⟨E, ec, rfl, _⟩ := SlR.of_own hown4
             rw [HN.out]
             have Hb4 : Hid (Below w.heap.size w w4) := Lib.hid (Hb3.out.trans (hb4.mono Hb3.out.size))
             clear hown4 hb4)
          | fail)
        go_ret
        exact ⟨by simp [hN0], Hb4.out⟩

end Go.Proofs.YtglanlpjoaholaaGreat
