/- Contracts: Within, overlap, Meets (regions). -/
import Derived.Test.YtglanlpjoaholaaGreatU5
namespace Go.Proofs.YtglanlpjoaholaaGreat
open Go.RowKit Go.Shelf Go.Lib Go.Sort
set_option linter.unusedVariables false
set_option linter.unusedSimpArgs false

theorem RBs.two (w : World) (A B : Option Addr) (n c m d : Nat) (a b : List R4) (hA : SlR w A n c a) (hB : SlR w B m d b) : RBs ((w.alloc (.cells #[.slice A n c] 33)).alloc (.cells #[.slice B m d] 33)) [⟨w.heap.size + 1, B, m, d, b⟩, ⟨w.heap.size, A, n, c, a⟩] := by
  have h0 : RBs w [] := fun x hx => by cases hx
  have h1 := h0.push A n c a hA
  have h2 := h1.push B m d b (hB.below (by repeat' (first | with_reducible exact Below.refl _ _ | with_reducible refine below_drewN ?_ _ | with_reducible refine Below.drew ?_ | with_reducible refine Below.alloc ?_ ?_ _ | with_reducible refine Below.setCell ?_ ?_ _ | with_reducible refine Below.trans ?_ (Below.mono (by with_reducible assumption) ?_) | (simp; done) | (simp; omega) | omega)))
  simpa using h2

set_option maxHeartbeats 8000000 in
set_option maxRecDepth 100000 in
theorem within_any (A B : Option Addr) (n c m d : Nat) (a b : List R4) (w : World) (hA : SlR w A n c a) (hB : SlR w B m d b) :
    Calls Tryz.prog 78 #[.agg #[.slice A n c], .agg #[.slice B m d]] w fun e w' => e = .returned (.bool (withinP a b)) ∧ Below w.heap.size w w' := by
  have hna := hA.len
  have hnb := hB.len
  have HA := Lib.hid hA
  have HB := Lib.hid hB
  have eg : ∀ args w, (callFunc 105 args).run Tryz.prog w = .ok (.enter 105 args) w := enters_of Tryz.func105 (by kernel_rfl) rfl
  have hfn : ∀ w, BoolFn 105 #[] notB w := by
    intro w W x y _
    show Calls Tryz.prog 105 #[.bool x, .bool y] W _
    cases x <;> cases y
    all_goals go_enter Tryz.func105, Tryz.ntmps105
    all_goals go_wp2
    all_goals go_ret
    all_goals exact ⟨rfl, (by repeat' (first | with_reducible exact Below.refl _ _ | with_reducible refine below_drewN ?_ _ | with_reducible refine Below.drew ?_ | with_reducible refine Below.alloc ?_ ?_ _ | with_reducible refine Below.setCell ?_ ?_ _ | with_reducible refine Below.trans ?_ (Below.mono (by with_reducible assumption) ?_) | (simp; done) | (simp; omega) | omega))⟩
  have HVa := Lib.hid (fun W (hW : Below w.heap.size w W) => valid_any A n c a W (HA.out.below hW))
  have HVb := Lib.hid (fun W (hW : Below w.heap.size w W) => valid_any B m d b W (HB.out.below hW))
  have Hx : Hid (withinP a b = (validP a && validP b && decide ((chooseP notB a b).length = 0))) := Lib.hid rfl
  have Hva : Hid (validP a = true → (n ≤ 750 ∧ ∀ q ∈ a, q.l < q.r)) := Lib.hid (fun h => by
    unfold validP at h
    simp only [Bool.and_eq_true, decide_eq_true_eq] at h
    exact ⟨by omega, ok_pos h.1.2⟩)
  have Hvb : Hid (validP b = true → (m ≤ 750 ∧ ∀ q ∈ b, q.l < q.r)) := Lib.hid (fun h => by
    unfold validP at h
    simp only [Bool.and_eq_true, decide_eq_true_eq] at h
    exact ⟨by omega, ok_pos h.1.2⟩)
  have Hfn := Lib.hid hfn
  have Eg := Lib.hid eg
  generalize withinP a b = res at *
  clear hfn eg
  obtain ⟨va, hva⟩ : ∃ va, validP a = va := ⟨_, rfl⟩
  obtain ⟨vb, hvb⟩ : ∃ vb, validP b = vb := ⟨_, rfl⟩
  rw [hva] at HVa Hx Hva
  rw [hvb] at HVb Hx Hvb
  clear hva hvb
  go_enter Tryz.func78, Tryz.ntmps78
  go_upto_region 1 with fail
  obtain ⟨w1, hw1⟩ : ∃ w1 : World, w1 = (w.alloc (.cells #[.slice A n c] 33)).alloc (.cells #[.slice B m d] 33) := ⟨_, rfl⟩
  rw [← hw1]
  have HL1 : Hid (RBs w1 [⟨w.heap.size + 1, B, m, d, b⟩, ⟨w.heap.size, A, n, c, a⟩]) := Lib.hid (by rw [hw1]; exact RBs.two w A B n c m d a b hA hB)
  have Hb1 : Hid (Below w.heap.size w w1) := Lib.hid (by rw [hw1]; exact (by repeat' (first | with_reducible exact Below.refl _ _ | with_reducible refine below_drewN ?_ _ | with_reducible refine Below.drew ?_ | with_reducible refine Below.alloc ?_ ?_ _ | with_reducible refine Below.setCell ?_ ?_ _ | with_reducible refine Below.trans ?_ (Below.mono (by with_reducible assumption) ?_) | (simp; done) | (simp; omega) | omega)))
  have hs1 := Hb1.out.size
  have c0 : w1.cell? ⟨w.heap.size, 0, none⟩ = some (.slice A n c) := (HL1.out _ (.tail _ (.head _))).c0
  have c1 : w1.cell? ⟨w.heap.size + 1, 0, none⟩ = some (.slice B m d) := (HL1.out _ (.head _)).c0
  clear hw1 hA hB
  cases va with
  | false =>
    have e0 : res = false := by rw [Hx.out]; rfl
    subst e0
    go_wp2_with (first
      | (go_at_call 68
         refine (HVa.out _ Hb1.out).mono ?_
         rintro e w2 ⟨rfl, hb2⟩
         have Hb2 : Hid (Below w.heap.size w w2) := Lib.hid (Hb1.out.trans (hb2.mono hs1))
         clear hb2)
      | fail)
    go_ret
    exact ⟨rfl, Hb2.out⟩
  | true =>
    obtain ⟨hn7, ha⟩ := Hva.out rfl
    have Ha := Lib.hid ha
    clear ha Hva
    cases vb with
    | false =>
      have e0 : res = false := by rw [Hx.out]; rfl
      subst e0
      go_wp2_with (first
        | (go_at_call_of 68 (Value.slice A n c)
           refine (HVa.out _ Hb1.out).mono ?_
           rintro e w2 ⟨rfl, hb2⟩
           have Hb2 : Hid (Below w.heap.size w w2) := Lib.hid (Hb1.out.trans (hb2.mono hs1))
           have c02 : w2.cell? ⟨w.heap.size, 0, none⟩ = some (.slice A n c) := ((HL1.out.below hb2) _ (.tail _ (.head _))).c0
           have c12 : w2.cell? ⟨w.heap.size + 1, 0, none⟩ = some (.slice B m d) := ((HL1.out.below hb2) _ (.head _)).c0
           clear hb2)
        | (go_at_call_of 68 (Value.slice B m d)
           refine (HVb.out _ Hb2.out).mono ?_
           rintro e w3 ⟨rfl, hb3⟩
           have Hb3 : Hid (Below w.heap.size w w3) := Lib.hid (Hb2.out.trans (hb3.mono Hb2.out.size))
           clear hb3)
        | fail)
      go_ret
      exact ⟨rfl, Hb3.out⟩
    | true =>
      obtain ⟨hm7, hb⟩ := Hvb.out rfl
      have Hbp := Lib.hid hb
      clear hb Hvb
      have HC := Lib.hid (fun W (hW : Below w.heap.size w W) => choose_any A B n c m d 105 #[] notB a b W (HA.out.below hW) (HB.out.below hW) hn7 hm7 Ha.out Hbp.out Eg.out (Hfn.out W))
      have Hx2 : Hid (res = decide ((chooseP notB a b).length = 0)) := Lib.hid (by rw [Hx.out]; rfl)
      clear Hx
      generalize chooseP notB a b = cl at *
      obtain ⟨N, hN⟩ : ∃ N, cl.length = N := ⟨_, rfl⟩
      have HN := Lib.hid hN
      rw [hN] at Hx2
      have hN9 : N = 0 ∨ ¬ N = 0 := by omega
      clear hN
      rcases hN9 with hN0 | hN0
      all_goals
        first
          | (have e0 : res = true := by rw [Hx2.out, decide_eq_true hN0])
          | (have e0 : res = false := by rw [Hx2.out, decide_eq_false hN0])
        subst e0
        have hNd : ((N : Int) == 0) = decide (N = 0) := by rw [Bool.eq_iff_iff]; simp
        try (have hNi : ¬ (N : Int) = 0 := by omega)
        go_wp2_with (first
          | (go_at_call_of 68 (Value.slice A n c)
             refine (HVa.out _ Hb1.out).mono ?_
             rintro e w2 ⟨rfl, hb2⟩
             have Hb2 : Hid (Below w.heap.size w w2) := Lib.hid (Hb1.out.trans (hb2.mono hs1))
             have HL2 := Lib.hid (HL1.out.below hb2)
             have c02 : w2.cell? ⟨w.heap.size, 0, none⟩ = some (.slice A n c) := (HL2.out _ (.tail _ (.head _))).c0
             have c12 : w2.cell? ⟨w.heap.size + 1, 0, none⟩ = some (.slice B m d) := (HL2.out _ (.head _)).c0
             clear hb2)
          | (go_at_call_of 68 (Value.slice B m d)
             refine (HVb.out _ Hb2.out).mono ?_
             rintro e w3 ⟨rfl, hb3⟩
             have Hb3 : Hid (Below w.heap.size w w3) := Lib.hid (Hb2.out.trans (hb3.mono Hb2.out.size))
             have HL3 := Lib.hid (HL2.out.below hb3)
             have c03 : w3.cell? ⟨w.heap.size, 0, none⟩ = some (.slice A n c) := (HL3.out _ (.tail _ (.head _))).c0
             have c13 : w3.cell? ⟨w.heap.size + 1, 0, none⟩ = some (.slice B m d) := (HL3.out _ (.head _)).c0
             clear hb3)
          | (go_at_call 45
             refine (HC.out _ Hb3.out).mono ?_
             rintro e w4 ⟨v4, rfl, hown4, hb4⟩
             obtain ⟨E, ec, rfl, _⟩ := SlR.of_own hown4
             rw [HN.out]
             have Hb4 : Hid (Below w.heap.size w w4) := Lib.hid (Hb3.out.trans (hb4.mono Hb3.out.size))
             clear hown4 hb4)
          | fail)
        go_ret
        exact ⟨by simp [hN0], Hb4.out⟩

theorem over_def (p q : R4) : overP p q = (decide (p.l < q.r) && decide (q.l < p.r) && decide (p.b < q.t) && decide (q.b < p.t)) := rfl
set_option maxHeartbeats 2000000 in
set_option maxRecDepth 100000 in
theorem overlap_any (p q : R4) (w : World) :
    Calls Tryz.prog 83 #[.agg #[.int .i64 p.l, .int .i64 p.b, .int .i64 p.r, .int .i64 p.t], .agg #[.int .i64 q.l, .int .i64 q.b, .int .i64 q.r, .int .i64 q.t]] w fun e w' => e = .returned (.bool (overP p q)) ∧ Below w.heap.size w w' := by
  have Hh : Hid (overP p q = (decide (p.l < q.r) && decide (q.l < p.r) && decide (p.b < q.t) && decide (q.b < p.t))) := Lib.hid rfl
  generalize overP p q = res at *
  by_cases h1 : p.l < q.r
  · by_cases h2 : q.l < p.r
    · by_cases h3 : p.b < q.t
      · by_cases h4 : q.b < p.t
        · have hR : res = true := by rw [Hh.out]; simp [h1, h2, h3, h4]
          subst hR
          go_enter Tryz.func83, Tryz.ntmps83
          go_wp2
          go_ret
          exact ⟨rfl, (by repeat' (first | with_reducible exact Below.refl _ _ | with_reducible refine below_drewN ?_ _ | with_reducible refine Below.drew ?_ | with_reducible refine Below.alloc ?_ ?_ _ | with_reducible refine Below.setCell ?_ ?_ _ | with_reducible refine Below.trans ?_ (Below.mono (by with_reducible assumption) ?_) | (simp; done) | (simp; omega) | omega))⟩
        · have hR : res = false := by rw [Hh.out]; simp [h4]
          subst hR
          go_enter Tryz.func83, Tryz.ntmps83
          go_wp2
          go_ret
          exact ⟨rfl, (by repeat' (first | with_reducible exact Below.refl _ _ | with_reducible refine below_drewN ?_ _ | with_reducible refine Below.drew ?_ | with_reducible refine Below.alloc ?_ ?_ _ | with_reducible refine Below.setCell ?_ ?_ _ | with_reducible refine Below.trans ?_ (Below.mono (by with_reducible assumption) ?_) | (simp; done) | (simp; omega) | omega))⟩
      · have hR : res = false := by rw [Hh.out]; simp [h3]
        subst hR
        go_enter Tryz.func83, Tryz.ntmps83
        go_wp2
        go_ret
        exact ⟨rfl, (by repeat' (first | with_reducible exact Below.refl _ _ | with_reducible refine below_drewN ?_ _ | with_reducible refine Below.drew ?_ | with_reducible refine Below.alloc ?_ ?_ _ | with_reducible refine Below.setCell ?_ ?_ _ | with_reducible refine Below.trans ?_ (Below.mono (by with_reducible assumption) ?_) | (simp; done) | (simp; omega) | omega))⟩
    · have hR : res = false := by rw [Hh.out]; simp [h2]
      subst hR
      go_enter Tryz.func83, Tryz.ntmps83
      go_wp2
      go_ret
      exact ⟨rfl, (by repeat' (first | with_reducible exact Below.refl _ _ | with_reducible refine below_drewN ?_ _ | with_reducible refine Below.drew ?_ | with_reducible refine Below.alloc ?_ ?_ _ | with_reducible refine Below.setCell ?_ ?_ _ | with_reducible refine Below.trans ?_ (Below.mono (by with_reducible assumption) ?_) | (simp; done) | (simp; omega) | omega))⟩
  · have hR : res = false := by rw [Hh.out]; simp [h1]
    subst hR
    go_enter Tryz.func83, Tryz.ntmps83
    go_wp2
    go_ret
    exact ⟨rfl, (by repeat' (first | with_reducible exact Below.refl _ _ | with_reducible refine below_drewN ?_ _ | with_reducible refine Below.drew ?_ | with_reducible refine Below.alloc ?_ ?_ _ | with_reducible refine Below.setCell ?_ ?_ _ | with_reducible refine Below.trans ?_ (Below.mono (by with_reducible assumption) ?_) | (simp; done) | (simp; omega) | omega))⟩

set_option maxHeartbeats 2000000 in
set_option maxRecDepth 100000 in
theorem overlapPred (gr : Nat) (p : R4) (w : World) (hr : w.heap[gr]? = some (.cells #[.int .i64 p.l, .int .i64 p.b, .int .i64 p.r, .int .i64 p.t] 64 (0, 0))) (hgr : gr < w.heap.size) :
    PredBelow Tryz.prog 82 #[.pointer (some ⟨gr, 0, none⟩)] (fun q : R4 => .agg (R4.cells q).toArray) (fun q => overP p q) w := by
  intro W q hb
  refine Calls.mono (show Calls Tryz.prog 82 #[.agg #[.int .i64 q.l, .int .i64 q.b, .int .i64 q.r, .int .i64 q.t], .pointer (some ⟨gr, 0, none⟩)] W fun e w' => e = .returned (.bool (overP p q)) ∧ Below W.heap.size W w' from ?_) ?_
  · have hrw := (hb.block gr hgr).trans hr
    have q0 := cell_of_row W gr 0 _ _ _ hrw
    have q1 := cell_of_row W gr 1 _ _ _ hrw
    have q2 := cell_of_row W gr 2 _ _ _ hrw
    have q3 := cell_of_row W gr 3 _ _ _ hrw
    have hgr' : gr < W.heap.size := Nat.lt_of_lt_of_le hgr hb.size
    have Ho := Lib.hid (overlap_any p q)
    generalize overP p q = res at *
    clear hr hb hgr hrw
    go_enter Tryz.func82, Tryz.ntmps82
    go_wp2_with (first
      | (go_at_call 83
         refine (Ho.out _).mono ?_
         rintro e w1 ⟨rfl, hb1⟩)
      | fail)
    go_ret
    exact ⟨rfl, (by repeat' (first | with_reducible exact Below.refl _ _ | with_reducible assumption | with_reducible refine below_drewN ?_ _ | with_reducible refine Below.drew ?_ | with_reducible refine Below.alloc ?_ ?_ _ | with_reducible refine Below.setCell ?_ ?_ _ | with_reducible refine Below.trans ?_ (Below.mono (by with_reducible assumption) ?_) | with_reducible refine below_only ?_ (by with_reducible assumption) ?_ ?_ | (simp; done) | (simp; omega) | omega))⟩
  · rintro e w' ⟨rfl, h⟩
    exact ⟨rfl, hb.trans (h.mono hb.size)⟩

set_option maxHeartbeats 2000000 in
set_option maxRecDepth 100000 in
theorem meetsPred (gb : Nat) (B : Option Addr) (m d : Nat) (b : List R4) (w : World) (hg : w.cell? ⟨gb, 0, none⟩ = some (.slice B m d)) (hgb : gb < w.heap.size) (hB : SlR w B m d b) :
    PredBelow Tryz.prog 81 #[.pointer (some ⟨gb, 0, none⟩)] (fun q : R4 => .agg (R4.cells q).toArray) (fun p => b.any fun q => overP p q) w := by
  have HB := Lib.hid hB
  have eg : ∀ args w, (callFunc 82 args).run Tryz.prog w = .ok (.enter 82 args) w := enters_of Tryz.func82 (by kernel_rfl) rfl
  intro W p hb
  refine Calls.mono (show Calls Tryz.prog 81 #[.agg #[.int .i64 p.l, .int .i64 p.b, .int .i64 p.r, .int .i64 p.t], .pointer (some ⟨gb, 0, none⟩)] W fun e w' => e = .returned (.bool (b.any fun q => overP p q)) ∧ Below W.heap.size W w' from ?_) ?_
  · have cg := (hb.cell (p := ⟨gb, 0, none⟩) hgb).trans hg
    have hgb' : gb < W.heap.size := Nat.lt_of_lt_of_le hgb hb.size
    have HBw := Lib.hid (HB.out.below hb)
    have Eg := Lib.hid eg
    have Hr : Hid ((b.any fun q => overP p q) = b.any fun q => overP p q) := Lib.hid rfl
    obtain ⟨res, hres⟩ : ∃ res, (b.any fun q => overP p q) = res := ⟨_, rfl⟩
    rw [hres]
    have Hres := Lib.hid hres
    clear hg hb hgb hB hres Hr eg
    go_enter Tryz.func81, Tryz.ntmps81
    go_wp2_with (first
      | (go_at_call 80
         refine (containsR_any (fun q => overP p q) 82 #[.pointer (some ⟨W.heap.size, 0, none⟩)] Eg.out B m d b _ (HBw.out.below (by repeat' (first | with_reducible exact Below.refl _ _ | with_reducible refine below_drewN ?_ _ | with_reducible refine Below.drew ?_ | with_reducible refine Below.alloc ?_ ?_ _ | with_reducible refine Below.setCell ?_ ?_ _ | with_reducible refine Below.trans ?_ (Below.mono (by with_reducible assumption) ?_) | (simp; done) | (simp; omega) | omega))) (overlapPred W.heap.size p _ (heap_alloc_new W _) (by simp))).mono ?_
         rintro e w1 ⟨rfl, hb1⟩
         rw [Hres.out])
      | fail)
    go_ret
    exact ⟨rfl, (by repeat' (first | with_reducible exact Below.refl _ _ | with_reducible assumption | with_reducible refine below_drewN ?_ _ | with_reducible refine Below.drew ?_ | with_reducible refine Below.alloc ?_ ?_ _ | with_reducible refine Below.setCell ?_ ?_ _ | with_reducible refine Below.trans ?_ (Below.mono (by with_reducible assumption) ?_) | with_reducible refine below_only ?_ (by with_reducible assumption) ?_ ?_ | (simp; done) | (simp; omega) | omega))⟩
  · rintro e w' ⟨rfl, h⟩
    exact ⟨rfl, hb.trans (h.mono hb.size)⟩

set_option maxHeartbeats 8000000 in
set_option maxRecDepth 100000 in
theorem meets_any (A B : Option Addr) (n c m d : Nat) (a b : List R4) (w : World) (hA : SlR w A n c a) (hB : SlR w B m d b) :
    Calls Tryz.prog 51 #[.agg #[.slice A n c], .agg #[.slice B m d]] w fun e w' => e = .returned (.bool (meetsP a b)) ∧ Below w.heap.size w w' := by
  have hna := hA.len
  have hnb := hB.len
  have HA := Lib.hid hA
  have HB := Lib.hid hB
  have eg : ∀ args w, (callFunc 81 args).run Tryz.prog w = .ok (.enter 81 args) w := enters_of Tryz.func81 (by kernel_rfl) rfl
  have HVa := Lib.hid (fun W (hW : Below w.heap.size w W) => valid_any A n c a W (HA.out.below hW))
  have HVb := Lib.hid (fun W (hW : Below w.heap.size w W) => valid_any B m d b W (HB.out.below hW))
  have Hx : Hid (meetsP a b = (validP a && validP b && a.any fun p => b.any fun q => overP p q)) := Lib.hid rfl
  have Eg := Lib.hid eg
  generalize meetsP a b = res at *
  clear eg
  obtain ⟨va, hva⟩ : ∃ va, validP a = va := ⟨_, rfl⟩
  obtain ⟨vb, hvb⟩ : ∃ vb, validP b = vb := ⟨_, rfl⟩
  rw [hva] at HVa Hx
  rw [hvb] at HVb Hx
  clear hva hvb
  go_enter Tryz.func51, Tryz.ntmps51
  go_upto_region 1 with fail
  obtain ⟨w1, hw1⟩ : ∃ w1 : World, w1 = (w.alloc (.cells #[.slice A n c] 33)).alloc (.cells #[.slice B m d] 33) := ⟨_, rfl⟩
  rw [← hw1]
  have HL1 : Hid (RBs w1 [⟨w.heap.size + 1, B, m, d, b⟩, ⟨w.heap.size, A, n, c, a⟩]) := Lib.hid (by rw [hw1]; exact RBs.two w A B n c m d a b hA hB)
  have Hb1 : Hid (Below w.heap.size w w1) := Lib.hid (by rw [hw1]; exact (by repeat' (first | with_reducible exact Below.refl _ _ | with_reducible refine below_drewN ?_ _ | with_reducible refine Below.drew ?_ | with_reducible refine Below.alloc ?_ ?_ _ | with_reducible refine Below.setCell ?_ ?_ _ | with_reducible refine Below.trans ?_ (Below.mono (by with_reducible assumption) ?_) | (simp; done) | (simp; omega) | omega)))
  have hs1 := Hb1.out.size
  have c0 : w1.cell? ⟨w.heap.size, 0, none⟩ = some (.slice A n c) := (HL1.out _ (.tail _ (.head _))).c0
  have c1 : w1.cell? ⟨w.heap.size + 1, 0, none⟩ = some (.slice B m d) := (HL1.out _ (.head _)).c0
  clear hw1 hA hB
  cases va with
  | false =>
    have e0 : res = false := by rw [Hx.out]; rfl
    subst e0
    go_wp2_with (first
      | (go_at_call 68
         refine (HVa.out _ Hb1.out).mono ?_
         rintro e w2 ⟨rfl, hb2⟩
         have Hb2 : Hid (Below w.heap.size w w2) := Lib.hid (Hb1.out.trans (hb2.mono hs1))
         clear hb2)
      | fail)
    go_ret
    exact ⟨rfl, Hb2.out⟩
  | true =>
    cases vb with
    | false =>
      have e0 : res = false := by rw [Hx.out]; rfl
      subst e0
      go_wp2_with (first
        | (go_at_call_of 68 (Value.slice A n c)
           refine (HVa.out _ Hb1.out).mono ?_
           rintro e w2 ⟨rfl, hb2⟩
           have Hb2 : Hid (Below w.heap.size w w2) := Lib.hid (Hb1.out.trans (hb2.mono hs1))
           have c02 : w2.cell? ⟨w.heap.size, 0, none⟩ = some (.slice A n c) := ((HL1.out.below hb2) _ (.tail _ (.head _))).c0
           have c12 : w2.cell? ⟨w.heap.size + 1, 0, none⟩ = some (.slice B m d) := ((HL1.out.below hb2) _ (.head _)).c0
           clear hb2)
        | (go_at_call_of 68 (Value.slice B m d)
           refine (HVb.out _ Hb2.out).mono ?_
           rintro e w3 ⟨rfl, hb3⟩
           have Hb3 : Hid (Below w.heap.size w w3) := Lib.hid (Hb2.out.trans (hb3.mono Hb2.out.size))
           clear hb3)
        | fail)
      go_ret
      exact ⟨rfl, Hb3.out⟩
    | true =>
      have Hx2 : Hid (res = a.any fun p => b.any fun q => overP p q) := Lib.hid (by rw [Hx.out]; rfl)
      clear Hx
      go_wp2_with (first
        | (go_at_call_of 68 (Value.slice A n c)
           refine (HVa.out _ Hb1.out).mono ?_
           rintro e w2 ⟨rfl, hb2⟩
           have Hb2 : Hid (Below w.heap.size w w2) := Lib.hid (Hb1.out.trans (hb2.mono hs1))
           have HL2 := Lib.hid (HL1.out.below hb2)
           have c02 : w2.cell? ⟨w.heap.size, 0, none⟩ = some (.slice A n c) := (HL2.out _ (.tail _ (.head _))).c0
           have c12 : w2.cell? ⟨w.heap.size + 1, 0, none⟩ = some (.slice B m d) := (HL2.out _ (.head _)).c0
           clear hb2)
        | (go_at_call_of 68 (Value.slice B m d)
           refine (HVb.out _ Hb2.out).mono ?_
           rintro e w3 ⟨rfl, hb3⟩
           have Hb3 : Hid (Below w.heap.size w w3) := Lib.hid (Hb2.out.trans (hb3.mono Hb2.out.size))
           have HL3 := Lib.hid (HL2.out.below hb3)
           have c03 : w3.cell? ⟨w.heap.size, 0, none⟩ = some (.slice A n c) := (HL3.out _ (.tail _ (.head _))).c0
           have Hc13 : Hid (w3.cell? ⟨w.heap.size + 1, 0, none⟩ = some (.slice B m d)) := Lib.hid (HL3.out _ (.head _)).c0
           have Hl13 : Hid (w.heap.size + 1 < w3.heap.size) := Lib.hid (HL3.out _ (.head _)).lt
           clear hb3)
        | (go_at_call 80
           refine (containsR_any (fun p => b.any fun q => overP p q) 81 #[.pointer (some ⟨w.heap.size + 1, 0, none⟩)] Eg.out A n c a _ (HA.out.below Hb3.out) (meetsPred (w.heap.size + 1) B m d b _ Hc13.out Hl13.out (HB.out.below Hb3.out))).mono ?_
           rintro e w4 ⟨rfl, hb4⟩
           rw [← Hx2.out]
           have Hb4 : Hid (Below w.heap.size w w4) := Lib.hid (Hb3.out.trans (hb4.mono Hb3.out.size))
           clear hb4)
        | fail)
      go_ret
      exact ⟨rfl, Hb4.out⟩
end Go.Proofs.YtglanlpjoaholaaGreat
