/- PaymentsSyncs: the walk. -/
import Derived.Test.YtbkfdpdcnjecbaaTB
import Derived.Deep.DeepMust
namespace Go.Proofs.Ytbkfdpdcnjecbaa
open Go.RowKit
set_option linter.unusedVariables false

set_option maxHeartbeats 4000000 in
set_option maxRecDepth 100000 in
theorem syncsLaw (A : Option Addr) (n c : Nat) (zs : List Int) (k : Int) (w : World) (hn : zs.length = n) (hc : n ≤ c) (hm : c ≤ maxLen) (hw : ∀ z ∈ zs, (Lit.int .i64 z).wf = true) (hA : Lies w A n (zs.map (.int .i64))) (hk : 0 ≤ k ∧ k ≤ 65535) :
    Calls Try.prog 6 #[.slice A n c, .int .u16 k] w fun e w' => e = .returned (.bool true) ∧ Below w.heap.size w w' := by
  have HN := Lib.hid (new_any A n c zs w hn hc hm hw hA)
  clear hn hw hA
  go_enter Try.func6, Try.ntmps6
  go_wp2_with fail
  refine HN.out.mono ?_
  rintro e w0 ⟨g, rfl, hg, ht, hb0⟩
  generalize zs.take 400 = r at *
  go_wp2_with fail
  refine (tape_any g r _ ht).mono ?_
  rintro e w1 ⟨A1, n1, c1, B1, m1, d1, v1, rfl, hA1, hB1, hown1, ht1, hg1, hfA1, hfB1⟩
  obtain ⟨hfine, hcnt⟩ := mk_fine r
  generalize mkTape r = t at *
  have hb1 := below_only hb0 hg1 hg hb0.size
  obtain ⟨L, lc, rfl, hL, hLc⟩ := own_slice hown1
  have Hb1 := Lib.hid hb1
  have Hfine := Lib.hid hfine
  have HA1 := Lib.hid (hA1.alloc (.cells #[.slice A1 n1 c1, .slice B1 m1 d1] 28))
  have HB1 := Lib.hid (hB1.alloc (.cells #[.slice A1 n1 c1, .slice B1 m1 d1] 28))
  have HL1 := Lib.hid (hL.alloc (.cells #[.slice A1 n1 c1, .slice B1 m1 d1] 28))
  have Hx1 := Lib.hid (TB.new w1 A1 n1 c1 B1 m1 d1)
  have hlen : n1 + m1 ≤ 200 := by
    have h1 := congrArg List.length hfine.bytes
    rw [List.length_append, recs_len, hA1.len, hB1.len] at h1
    omega
  clear hfine hA1 hB1 hown1 ht ht1 hg1 hfA1 hfB1 hb0 hb1 hL
  go_wp2_with fail
  refine (syncP_any A1 B1 n1 c1 m1 d1 t.s t.u _ (by omega) HA1.out HB1.out).mono ?_
  rintro e w2 ⟨A2, n2, c2, B2, m2, d2, rfl, hA2, hB2, hb2, _⟩
  rw [Hfine.out.bytes] at hA2
  have Hb2 := Lib.hid hb2
  have hs2 := hb2.size
  have Hx2 := Lib.hid ((Hx1.out.below hb2).alloc (.cells #[.slice A2 n2 c2, .slice B2 m2 d2] 28))
  have Hy2 := Lib.hid (TB.new w2 A2 n2 c2 B2 m2 d2)
  have HA1b := Lib.hid ((HA1.out.below hb2).alloc (.cells #[.slice A2 n2 c2, .slice B2 m2 d2] 28))
  have HB1b := Lib.hid ((HB1.out.below hb2).alloc (.cells #[.slice A2 n2 c2, .slice B2 m2 d2] 28))
  have HL2 := Lib.hid ((HL1.out.below hb2).alloc (.cells #[.slice A2 n2 c2, .slice B2 m2 d2] 28))
  have HA2 := Lib.hid (hA2.alloc (.cells #[.slice A2 n2 c2, .slice B2 m2 d2] 28))
  have HB2 := Lib.hid (hB2.alloc (.cells #[.slice A2 n2 c2, .slice B2 m2 d2] 28))
  have hn2 : n2 ≤ 140 ∧ m2 = 0 := by
    have h1 := hA2.len
    have h2 := hB2.len
    rw [recs_len] at h1
    simp at h2
    omega
  obtain ⟨hn2a, rfl⟩ := hn2
  clear hA2 hB2 hb2
  have Hw2 := Lib.hid (show Below w.heap.size w w2 from by
    have hb1 := Hb1.out
    have hs1 := hb1.size
    exact (hb1.alloc hs1 _).trans (Hb2.out.mono (by simp; omega)))
  go_wp2_with fail
  refine (crashP_any A2 B2 n2 c2 0 d2 (recs t.os) [] k _ (by omega) (by omega) HA2.out HB2.out).mono ?_
  rintro e w3 ⟨A3, n3, c3, B3, m3, d3, rfl, hA3, hB3, hb3, _⟩
  rw [List.take_nil, List.append_nil] at hA3
  have hn3 : n3 ≤ 140 ∧ m3 = 0 := by
    have h1 := hA3.len
    have h2 := hB3.len
    rw [recs_len] at h1
    simp at h2
    omega
  obtain ⟨hn3a, rfl⟩ := hn3
  have hs3 := hb3.size
  simp only [World.size_alloc] at hs3
  have hb3' := hb3.alloc hb3.size (.cells #[.slice A3 n3 c3, .slice B3 0 d3] 28)
  have Hz := Lib.hid (TB.new w3 A3 n3 c3 B3 0 d3)
  have HA3 := Lib.hid (hA3.alloc (.cells #[.slice A3 n3 c3, .slice B3 0 d3] 28))
  have HB3 := Lib.hid (hB3.alloc (.cells #[.slice A3 n3 c3, .slice B3 0 d3] 28))
  have Hx := Lib.hid (Hx2.out.below hb3')
  have Hy := Lib.hid (Hy2.out.below hb3')
  have HAx := Lib.hid (HA1b.out.below hb3')
  have HBx := Lib.hid (HB1b.out.below hb3')
  have HAy := Lib.hid (HA2.out.below hb3')
  have HBy := Lib.hid (HB2.out.below hb3')
  have HL := Lib.hid (HL2.out.below hb3')
  have Hw3 := Lib.hid (show Below w.heap.size w w3 from by
    have hw2 := Hw2.out
    have h := hw2.size
    exact (hw2.alloc h _).trans (hb3.mono (by simp; omega)))
  clear hA3 hB3 hb3 hb3'
  clear Hx1 HA1 HB1 HL1 Hx2 Hy2 HA1b HB1b HL2 HA2 HB2 Hb1 Hb2
  go_wp2_with fail
  refine (ordersP_any A3 B3 n3 c3 0 d3 (recs t.os) [] _ (by omega) HA3.out HB3.out).mono ?_
  rintro e w4 ⟨v4, rfl, hown4, hb4⟩
  rw [List.append_nil, ordsB_all t.os Hfine.out.grow] at hown4 ⊢
  obtain ⟨G, gc, rfl, hG, _⟩ := own_slice hown4
  have HG := Lib.hid hG
  have Hz4 := Lib.hid (Hz.out.below hb4)
  have Hx4 := Lib.hid (Hx.out.below hb4)
  have Hy4 := Lib.hid (Hy.out.below hb4)
  have HAx4 := Lib.hid (HAx.out.below hb4)
  have HBx4 := Lib.hid (HBx.out.below hb4)
  have HAy4 := Lib.hid (HAy.out.below hb4)
  have HBy4 := Lib.hid (HBy.out.below hb4)
  have HAz4 := Lib.hid (HA3.out.below hb4)
  have HBz4 := Lib.hid (HB3.out.below hb4)
  have HL4 := Lib.hid (HL.out.below hb4)
  have Hw4 := Lib.hid (show Below w.heap.size w w4 from by
    have hw3 := Hw3.out
    have h := hw3.size
    exact (hw3.alloc h _).trans (hb4.mono (by simp; omega)))
  obtain ⟨x0, x1, _, _⟩ := Hx4.out.facts
  clear hown4 hG hb4 Hz Hx Hy HAx HBx HAy HBy HA3 HB3 HL
  have hkq1 : 0 ≤ k % 90 ∧ k % 90 ≤ 89 := by omega
  have Hcr := Lib.hid (crash_fine Hfine.out (keepN (k % 90) m1))
  go_wp2_with fail
  refine (crashP_any A1 B1 n1 c1 m1 d1 t.s t.u (k % 90) _ (by omega) (by omega) HAx4.out HBx4.out).mono ?_
  rintro e w5 ⟨A5, n5, c5, B5, m5, d5, rfl, hA5, hB5, hb5, _⟩
  rw [Hcr.out] at hA5
  obtain ⟨J, hJ⟩ : ∃ J, t.s.length + keepN (k % 90) m1 = J := ⟨_, rfl⟩
  rw [hJ] at hA5
  have hn5 : n5 ≤ 140 ∧ m5 = 0 := by
    have h1 := hA5.len
    have h2 := hB5.len
    rw [List.length_take, recs_len] at h1
    simp at h2
    omega
  obtain ⟨hn5a, rfl⟩ := hn5
  have HA5 := Lib.hid hA5
  have HB5 := Lib.hid hB5
  have Hb5 := Lib.hid hb5
  have hs5 := hb5.size
  clear hA5 hB5 hb5 hJ
  go_wp2_with fail
  refine (repairP_any A5 B5 n5 c5 0 d5 ((recs t.os).take J) [] _ (by omega) HA5.out HB5.out).mono ?_
  rintro e w6 ⟨A6, n6, c6, B6, m6, d6, rfl, hA6, hB6, hb6, _⟩
  rw [List.append_nil, fixB_take t.os J Hfine.out.grow] at hA6
  have Hgr := Lib.hid (Hfine.out.grow.take (J / 28))
  have hol : (t.os.take (J / 28)).length ≤ 5 := by rw [List.length_take]; omega
  generalize t.os.take (J / 28) = os6 at *
  have hn6 : n6 = 28 * os6.length ∧ m6 = 0 := by
    have h1 := hA6.len
    have h2 := hB6.len
    rw [recs_len] at h1
    simp at h2
    omega
  obtain ⟨rfl, rfl⟩ := hn6
  have hb46 : Below w4.heap.size w4 w6 := Hb5.out.trans (hb6.mono hs5)
  have hb46' := hb46.alloc hb46.size (.cells #[.slice A6 (28 * os6.length) c6, .slice B6 0 d6] 28)
  have Hr := Lib.hid (TB.new w6 A6 (28 * os6.length) c6 B6 0 d6)
  have HAr := Lib.hid (hA6.alloc (.cells #[.slice A6 (28 * os6.length) c6, .slice B6 0 d6] 28))
  have HBr := Lib.hid (hB6.alloc (.cells #[.slice A6 (28 * os6.length) c6, .slice B6 0 d6] 28))
  have Hy := Lib.hid (Hy4.out.below hb46')
  have Hz := Lib.hid (Hz4.out.below hb46')
  have HAy := Lib.hid (HAy4.out.below hb46')
  have HBy := Lib.hid (HBy4.out.below hb46')
  have HAz := Lib.hid (HAz4.out.below hb46')
  have HBz := Lib.hid (HBz4.out.below hb46')
  have HL := Lib.hid (HL4.out.below hb46')
  have HGl := Lib.hid (HG.out.below hb46')
  have Hw6 := Lib.hid (show Below w.heap.size w (w6.alloc (.cells #[.slice A6 (28 * os6.length) c6, .slice B6 0 d6] 28)) from by
    have hw4 := Hw4.out
    have h := hw4.size
    have h2 := hb46.size
    exact (hw4.trans (hb46.mono h)).alloc (by omega) _)
  clear x0 x1 hA6 hB6 hb6 hb46 hb46' Hy4 Hz4 HAy4 HBy4 HAz4 HBz4 HL4 HG HAx4 HBx4 Hx4 Hb5 HA5 HB5
  go_upto_region 7 with fail
  obtain ⟨w7, hw7⟩ : ∃ w7 : World, w7 = w6.alloc (.cells #[.slice A6 (28 * os6.length) c6, .slice B6 0 d6] 28) := ⟨_, rfl⟩
  rw [← hw7] at Hr HAr HBr Hy Hz HAy HBy HAz HBz HL HGl Hw6 ⊢
  have hlt2 := Hy.out.lt
  have hlt3 := Hz.out.lt
  have hlt6 := Hr.out.lt
  clear hw7
  obtain ⟨y0, y1, _, _⟩ := Hy.out.facts
  obtain ⟨z0, z1, _, _⟩ := Hz.out.facts
  obtain ⟨r0, r1, _, _⟩ := Hr.out.facts
  have hne1 : ¬ w2.heap.size = w3.heap.size := by omega
  go_region_held3 (fun w' => w'.cell? ⟨w2.heap.size, 0, none⟩ = some (.slice A2 n2 c2) ∧ w'.cell? ⟨w2.heap.size, 1, none⟩ = some (.slice B2 0 d2) ∧ w'.cell? ⟨w3.heap.size, 0, none⟩ = some (.slice A3 n3 c3) ∧ w'.cell? ⟨w3.heap.size, 1, none⟩ = some (.slice B3 0 d3) ∧ w'.cell? ⟨w6.heap.size, 0, none⟩ = some (.slice A6 (28 * os6.length) c6) ∧ w'.cell? ⟨w6.heap.size, 1, none⟩ = some (.slice B6 0 d6))
    (first | go_keep | ((repeat' apply And.intro) <;> go_keep))
    (first
      | (go_at_call 14; refine (syncP_any A2 B2 n2 c2 0 d2 (recs t.os) [] _ (by omega) (HAy.out.below (by repeat' (first | with_reducible exact Below.refl _ _ | with_reducible refine below_drewN ?_ _ | with_reducible refine Below.drew ?_ | with_reducible refine Below.alloc ?_ ?_ _ | with_reducible refine Below.setCell ?_ ?_ _ | with_reducible refine Below.trans ?_ (Below.mono (by with_reducible assumption) ?_) | (simp; done) | (simp; omega) | omega))) (HBy.out.below (by repeat' (first | with_reducible exact Below.refl _ _ | with_reducible refine below_drewN ?_ _ | with_reducible refine Below.drew ?_ | with_reducible refine Below.alloc ?_ ?_ _ | with_reducible refine Below.setCell ?_ ?_ _ | with_reducible refine Below.trans ?_ (Below.mono (by with_reducible assumption) ?_) | (simp; done) | (simp; omega) | omega)))).mono ?_; rintro e w8 ⟨A8, n8, c8, B8, m8, d8, rfl, hA8, hB8, hb8, _⟩; rw [List.append_nil] at hA8; have HA8 := Lib.hid hA8; have HB8 := Lib.hid hB8; clear hA8 hB8; have Hb8 : Hid (Below w7.heap.size w7 w8) := Lib.hid (show Below w7.heap.size w7 w8 from (by have hbq := hb8;  exact (by repeat' (first | with_reducible exact Below.refl _ _ | with_reducible assumption | with_reducible refine below_drewN ?_ _ | with_reducible refine Below.drew ?_ | with_reducible refine Below.alloc ?_ ?_ _ | with_reducible refine Below.setCell ?_ ?_ _ | with_reducible refine Below.trans ?_ (Below.mono (by with_reducible assumption) ?_) | with_reducible refine below_only ?_ (by with_reducible assumption) ?_ ?_ | (simp; done) | (simp; omega) | omega)))); have Hs8 : Hid (w7.heap.size ≤ w8.heap.size) := Hb8.out.size; obtain ⟨y08, y18, _, _⟩ := (Hy.out.below Hb8.out).facts; obtain ⟨z08, z18, _, _⟩ := (Hz.out.below Hb8.out).facts; obtain ⟨r08, r18, _, _⟩ := (Hr.out.below Hb8.out).facts; clear hb8)
      | (go_at_call_of 21 A8; refine (same_any A2 B2 A8 B8 n2 c2 0 d2 n8 c8 m8 d8 (recs t.os) [] (recs t.os) [] _ (HAy.out.below (by have hp := Hb8.out; have hs := Hs8.out; exact (by repeat' (first | with_reducible exact Below.refl _ _ | with_reducible assumption | with_reducible refine below_drewN ?_ _ | with_reducible refine Below.drew ?_ | with_reducible refine Below.alloc ?_ ?_ _ | with_reducible refine Below.setCell ?_ ?_ _ | with_reducible refine Below.trans ?_ (Below.mono (by with_reducible assumption) ?_) | with_reducible refine below_only ?_ (by with_reducible assumption) ?_ ?_ | (simp; done) | (simp; omega) | omega)))) (HBy.out.below (by have hp := Hb8.out; have hs := Hs8.out; exact (by repeat' (first | with_reducible exact Below.refl _ _ | with_reducible assumption | with_reducible refine below_drewN ?_ _ | with_reducible refine Below.drew ?_ | with_reducible refine Below.alloc ?_ ?_ _ | with_reducible refine Below.setCell ?_ ?_ _ | with_reducible refine Below.trans ?_ (Below.mono (by with_reducible assumption) ?_) | with_reducible refine below_only ?_ (by with_reducible assumption) ?_ ?_ | (simp; done) | (simp; omega) | omega)))) (HA8.out.below (by repeat' (first | with_reducible exact Below.refl _ _ | with_reducible refine below_drewN ?_ _ | with_reducible refine Below.drew ?_ | with_reducible refine Below.alloc ?_ ?_ _ | with_reducible refine Below.setCell ?_ ?_ _ | with_reducible refine Below.trans ?_ (Below.mono (by with_reducible assumption) ?_) | (simp; done) | (simp; omega) | omega))) (HB8.out.below (by repeat' (first | with_reducible exact Below.refl _ _ | with_reducible refine below_drewN ?_ _ | with_reducible refine Below.drew ?_ | with_reducible refine Below.alloc ?_ ?_ _ | with_reducible refine Below.setCell ?_ ?_ _ | with_reducible refine Below.trans ?_ (Below.mono (by with_reducible assumption) ?_) | (simp; done) | (simp; omega) | omega)))).mono ?_; rintro e w9 ⟨rfl, hb9⟩; rw [decide_eq_true rfl, decide_eq_true rfl, Bool.and_self]; have Hb9 : Hid (Below w7.heap.size w7 w9) := Lib.hid (show Below w7.heap.size w7 w9 from (by have hbq := hb9; have hp := Hb8.out; have hs := Hs8.out; exact (by repeat' (first | with_reducible exact Below.refl _ _ | with_reducible assumption | with_reducible refine below_drewN ?_ _ | with_reducible refine Below.drew ?_ | with_reducible refine Below.alloc ?_ ?_ _ | with_reducible refine Below.setCell ?_ ?_ _ | with_reducible refine Below.trans ?_ (Below.mono (by with_reducible assumption) ?_) | with_reducible refine below_only ?_ (by with_reducible assumption) ?_ ?_ | (simp; done) | (simp; omega) | omega)))); have Hs9 : Hid (w7.heap.size ≤ w9.heap.size) := Hb9.out.size; obtain ⟨y09, y19, _, _⟩ := (Hy.out.below Hb9.out).facts; obtain ⟨z09, z19, _, _⟩ := (Hz.out.below Hb9.out).facts; obtain ⟨r09, r19, _, _⟩ := (Hr.out.below Hb9.out).facts; clear hb9)
      | (go_at_call_of 21 A3; refine (same_any A2 B2 A3 B3 n2 c2 0 d2 n3 c3 0 d3 (recs t.os) [] (recs t.os) [] _ (HAy.out.below (by have hp := Hb9.out; have hs := Hs9.out; exact (by repeat' (first | with_reducible exact Below.refl _ _ | with_reducible assumption | with_reducible refine below_drewN ?_ _ | with_reducible refine Below.drew ?_ | with_reducible refine Below.alloc ?_ ?_ _ | with_reducible refine Below.setCell ?_ ?_ _ | with_reducible refine Below.trans ?_ (Below.mono (by with_reducible assumption) ?_) | with_reducible refine below_only ?_ (by with_reducible assumption) ?_ ?_ | (simp; done) | (simp; omega) | omega)))) (HBy.out.below (by have hp := Hb9.out; have hs := Hs9.out; exact (by repeat' (first | with_reducible exact Below.refl _ _ | with_reducible assumption | with_reducible refine below_drewN ?_ _ | with_reducible refine Below.drew ?_ | with_reducible refine Below.alloc ?_ ?_ _ | with_reducible refine Below.setCell ?_ ?_ _ | with_reducible refine Below.trans ?_ (Below.mono (by with_reducible assumption) ?_) | with_reducible refine below_only ?_ (by with_reducible assumption) ?_ ?_ | (simp; done) | (simp; omega) | omega)))) (HAz.out.below (by have hp := Hb9.out; have hs := Hs9.out; exact (by repeat' (first | with_reducible exact Below.refl _ _ | with_reducible assumption | with_reducible refine below_drewN ?_ _ | with_reducible refine Below.drew ?_ | with_reducible refine Below.alloc ?_ ?_ _ | with_reducible refine Below.setCell ?_ ?_ _ | with_reducible refine Below.trans ?_ (Below.mono (by with_reducible assumption) ?_) | with_reducible refine below_only ?_ (by with_reducible assumption) ?_ ?_ | (simp; done) | (simp; omega) | omega)))) (HBz.out.below (by have hp := Hb9.out; have hs := Hs9.out; exact (by repeat' (first | with_reducible exact Below.refl _ _ | with_reducible assumption | with_reducible refine below_drewN ?_ _ | with_reducible refine Below.drew ?_ | with_reducible refine Below.alloc ?_ ?_ _ | with_reducible refine Below.setCell ?_ ?_ _ | with_reducible refine Below.trans ?_ (Below.mono (by with_reducible assumption) ?_) | with_reducible refine below_only ?_ (by with_reducible assumption) ?_ ?_ | (simp; done) | (simp; omega) | omega))))).mono ?_; rintro e w10 ⟨rfl, hb10⟩; rw [decide_eq_true rfl, decide_eq_true rfl, Bool.and_self]; have Hb10 : Hid (Below w7.heap.size w7 w10) := Lib.hid (show Below w7.heap.size w7 w10 from (by have hbq := hb10; have hp := Hb9.out; have hs := Hs9.out; exact (by repeat' (first | with_reducible exact Below.refl _ _ | with_reducible assumption | with_reducible refine below_drewN ?_ _ | with_reducible refine Below.drew ?_ | with_reducible refine Below.alloc ?_ ?_ _ | with_reducible refine Below.setCell ?_ ?_ _ | with_reducible refine Below.trans ?_ (Below.mono (by with_reducible assumption) ?_) | with_reducible refine below_only ?_ (by with_reducible assumption) ?_ ?_ | (simp; done) | (simp; omega) | omega)))); have Hs10 : Hid (w7.heap.size ≤ w10.heap.size) := Hb10.out.size; obtain ⟨y010, y110, _, _⟩ := (Hy.out.below Hb10.out).facts; obtain ⟨z010, z110, _, _⟩ := (Hz.out.below Hb10.out).facts; obtain ⟨r010, r110, _, _⟩ := (Hr.out.below Hb10.out).facts; clear hb10)
      | (go_at_call 17; refine (lists_any _ _ _ _ _ _ t.os t.os _ rfl rfl (by omega) (by omega) (HGl.out.below (by have hp := Hb10.out; have hs := Hs10.out; exact (by repeat' (first | with_reducible exact Below.refl _ _ | with_reducible assumption | with_reducible refine below_drewN ?_ _ | with_reducible refine Below.drew ?_ | with_reducible refine Below.alloc ?_ ?_ _ | with_reducible refine Below.setCell ?_ ?_ _ | with_reducible refine Below.trans ?_ (Below.mono (by with_reducible assumption) ?_) | with_reducible refine below_only ?_ (by with_reducible assumption) ?_ ?_ | (simp; done) | (simp; omega) | omega)))) (HL.out.below (by have hp := Hb10.out; have hs := Hs10.out; exact (by repeat' (first | with_reducible exact Below.refl _ _ | with_reducible assumption | with_reducible refine below_drewN ?_ _ | with_reducible refine Below.drew ?_ | with_reducible refine Below.alloc ?_ ?_ _ | with_reducible refine Below.setCell ?_ ?_ _ | with_reducible refine Below.trans ?_ (Below.mono (by with_reducible assumption) ?_) | with_reducible refine below_only ?_ (by with_reducible assumption) ?_ ?_ | (simp; done) | (simp; omega) | omega))))).mono ?_; rintro e w11 ⟨rfl, hb11⟩; rw [decide_eq_true rfl]; have Hb11 : Hid (Below w7.heap.size w7 w11) := Lib.hid (show Below w7.heap.size w7 w11 from (by have hbq := hb11; have hp := Hb10.out; have hs := Hs10.out; exact (by repeat' (first | with_reducible exact Below.refl _ _ | with_reducible assumption | with_reducible refine below_drewN ?_ _ | with_reducible refine Below.drew ?_ | with_reducible refine Below.alloc ?_ ?_ _ | with_reducible refine Below.setCell ?_ ?_ _ | with_reducible refine Below.trans ?_ (Below.mono (by with_reducible assumption) ?_) | with_reducible refine below_only ?_ (by with_reducible assumption) ?_ ?_ | (simp; done) | (simp; omega) | omega)))); have Hs11 : Hid (w7.heap.size ≤ w11.heap.size) := Hb11.out.size; obtain ⟨y011, y111, _, _⟩ := (Hy.out.below Hb11.out).facts; obtain ⟨z011, z111, _, _⟩ := (Hz.out.below Hb11.out).facts; obtain ⟨r011, r111, _, _⟩ := (Hr.out.below Hb11.out).facts; clear hb11)
      | (go_at_call 20; refine (repairP_any A6 B6 (28 * os6.length) c6 0 d6 (recs os6) [] _ (by omega) (HAr.out.below (by have hp := Hb11.out; have hs := Hs11.out; exact (by repeat' (first | with_reducible exact Below.refl _ _ | with_reducible assumption | with_reducible refine below_drewN ?_ _ | with_reducible refine Below.drew ?_ | with_reducible refine Below.alloc ?_ ?_ _ | with_reducible refine Below.setCell ?_ ?_ _ | with_reducible refine Below.trans ?_ (Below.mono (by with_reducible assumption) ?_) | with_reducible refine below_only ?_ (by with_reducible assumption) ?_ ?_ | (simp; done) | (simp; omega) | omega)))) (HBr.out.below (by have hp := Hb11.out; have hs := Hs11.out; exact (by repeat' (first | with_reducible exact Below.refl _ _ | with_reducible assumption | with_reducible refine below_drewN ?_ _ | with_reducible refine Below.drew ?_ | with_reducible refine Below.alloc ?_ ?_ _ | with_reducible refine Below.setCell ?_ ?_ _ | with_reducible refine Below.trans ?_ (Below.mono (by with_reducible assumption) ?_) | with_reducible refine below_only ?_ (by with_reducible assumption) ?_ ?_ | (simp; done) | (simp; omega) | omega))))).mono ?_; rintro e w12 ⟨A12, n12, c12, B12, m12, d12, rfl, hA12, hB12, hb12, _⟩; rw [List.append_nil, fix_recs os6 Hgr.out] at hA12; have HA12 := Lib.hid hA12; have HB12 := Lib.hid hB12; clear hA12 hB12; have Hb12 : Hid (Below w7.heap.size w7 w12) := Lib.hid (show Below w7.heap.size w7 w12 from (by have hbq := hb12; have hp := Hb11.out; have hs := Hs11.out; exact (by repeat' (first | with_reducible exact Below.refl _ _ | with_reducible assumption | with_reducible refine below_drewN ?_ _ | with_reducible refine Below.drew ?_ | with_reducible refine Below.alloc ?_ ?_ _ | with_reducible refine Below.setCell ?_ ?_ _ | with_reducible refine Below.trans ?_ (Below.mono (by with_reducible assumption) ?_) | with_reducible refine below_only ?_ (by with_reducible assumption) ?_ ?_ | (simp; done) | (simp; omega) | omega)))); have Hs12 : Hid (w7.heap.size ≤ w12.heap.size) := Hb12.out.size; obtain ⟨y012, y112, _, _⟩ := (Hy.out.below Hb12.out).facts; obtain ⟨z012, z112, _, _⟩ := (Hz.out.below Hb12.out).facts; obtain ⟨r012, r112, _, _⟩ := (Hr.out.below Hb12.out).facts; clear hb12)
      | (go_at_call_of 21 A12; refine (same_any A6 B6 A12 B12 (28 * os6.length) c6 0 d6 n12 c12 m12 d12 (recs os6) [] (recs os6) [] _ (HAr.out.below (by have hp := Hb12.out; have hs := Hs12.out; exact (by repeat' (first | with_reducible exact Below.refl _ _ | with_reducible assumption | with_reducible refine below_drewN ?_ _ | with_reducible refine Below.drew ?_ | with_reducible refine Below.alloc ?_ ?_ _ | with_reducible refine Below.setCell ?_ ?_ _ | with_reducible refine Below.trans ?_ (Below.mono (by with_reducible assumption) ?_) | with_reducible refine below_only ?_ (by with_reducible assumption) ?_ ?_ | (simp; done) | (simp; omega) | omega)))) (HBr.out.below (by have hp := Hb12.out; have hs := Hs12.out; exact (by repeat' (first | with_reducible exact Below.refl _ _ | with_reducible assumption | with_reducible refine below_drewN ?_ _ | with_reducible refine Below.drew ?_ | with_reducible refine Below.alloc ?_ ?_ _ | with_reducible refine Below.setCell ?_ ?_ _ | with_reducible refine Below.trans ?_ (Below.mono (by with_reducible assumption) ?_) | with_reducible refine below_only ?_ (by with_reducible assumption) ?_ ?_ | (simp; done) | (simp; omega) | omega)))) (HA12.out.below (by repeat' (first | with_reducible exact Below.refl _ _ | with_reducible refine below_drewN ?_ _ | with_reducible refine Below.drew ?_ | with_reducible refine Below.alloc ?_ ?_ _ | with_reducible refine Below.setCell ?_ ?_ _ | with_reducible refine Below.trans ?_ (Below.mono (by with_reducible assumption) ?_) | (simp; done) | (simp; omega) | omega))) (HB12.out.below (by repeat' (first | with_reducible exact Below.refl _ _ | with_reducible refine below_drewN ?_ _ | with_reducible refine Below.drew ?_ | with_reducible refine Below.alloc ?_ ?_ _ | with_reducible refine Below.setCell ?_ ?_ _ | with_reducible refine Below.trans ?_ (Below.mono (by with_reducible assumption) ?_) | (simp; done) | (simp; omega) | omega)))).mono ?_; rintro e w13 ⟨rfl, hb13⟩; rw [decide_eq_true rfl, decide_eq_true rfl, Bool.and_self]; have Hb13 : Hid (Below w7.heap.size w7 w13) := Lib.hid (show Below w7.heap.size w7 w13 from (by have hbq := hb13; have hp := Hb12.out; have hs := Hs12.out; exact (by repeat' (first | with_reducible exact Below.refl _ _ | with_reducible assumption | with_reducible refine below_drewN ?_ _ | with_reducible refine Below.drew ?_ | with_reducible refine Below.alloc ?_ ?_ _ | with_reducible refine Below.setCell ?_ ?_ _ | with_reducible refine Below.trans ?_ (Below.mono (by with_reducible assumption) ?_) | with_reducible refine below_only ?_ (by with_reducible assumption) ?_ ?_ | (simp; done) | (simp; omega) | omega)))); have Hs13 : Hid (w7.heap.size ≤ w13.heap.size) := Hb13.out.size; obtain ⟨y013, y113, _, _⟩ := (Hy.out.below Hb13.out).facts; obtain ⟨z013, z113, _, _⟩ := (Hz.out.below Hb13.out).facts; obtain ⟨r013, r113, _, _⟩ := (Hr.out.below Hb13.out).facts; clear hb13)
      | (go_at_call 18; refine (awake_any _).mono ?_; rintro e w14 ⟨rfl, hb14⟩; have Hb14 : Hid (Below w7.heap.size w7 w14) := Lib.hid (show Below w7.heap.size w7 w14 from (by have hbq := hb14; have hp := Hb13.out; have hs := Hs13.out; exact (by repeat' (first | with_reducible exact Below.refl _ _ | with_reducible assumption | with_reducible refine below_drewN ?_ _ | with_reducible refine Below.drew ?_ | with_reducible refine Below.alloc ?_ ?_ _ | with_reducible refine Below.setCell ?_ ?_ _ | with_reducible refine Below.trans ?_ (Below.mono (by with_reducible assumption) ?_) | with_reducible refine below_only ?_ (by with_reducible assumption) ?_ ?_ | (simp; done) | (simp; omega) | omega)))); have Hs14 : Hid (w7.heap.size ≤ w14.heap.size) := Hb14.out.size; obtain ⟨y014, y114, _, _⟩ := (Hy.out.below Hb14.out).facts; obtain ⟨z014, z114, _, _⟩ := (Hz.out.below Hb14.out).facts; obtain ⟨r014, r114, _, _⟩ := (Hr.out.below Hb14.out).facts; clear hb14)
      | fail)
  have h28 : Int.tmod (28 * (os6.length : Int)) 28 = 0 := by rw [Int.tmod_eq_emod_of_nonneg (by omega)]; omega
  all_goals go_wp2
  all_goals go_ret
  all_goals exact ⟨by first | rfl | (simp; done) | (simp [h28]; done) | (simp; omega), Hw6.out.trans ((show Below w7.heap.size w7 _ from (by have hp := Hb14.out; have hs := Hs14.out; exact (by repeat' (first | with_reducible exact Below.refl _ _ | with_reducible assumption | with_reducible refine below_drewN ?_ _ | with_reducible refine Below.drew ?_ | with_reducible refine Below.alloc ?_ ?_ _ | with_reducible refine Below.setCell ?_ ?_ _ | with_reducible refine Below.trans ?_ (Below.mono (by with_reducible assumption) ?_) | with_reducible refine below_only ?_ (by with_reducible assumption) ?_ ?_ | (simp; done) | (simp; omega) | omega)))).mono Hw6.out.size)⟩
end Go.Proofs.Ytbkfdpdcnjecbaa
