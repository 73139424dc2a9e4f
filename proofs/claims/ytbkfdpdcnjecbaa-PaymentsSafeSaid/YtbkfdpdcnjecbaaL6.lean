/- PaymentsSafe: the walk. -/
import Derived.Test.YtbkfdpdcnjecbaaL5
import Derived.Test.YtbkfdpdcnjecbaaL3
namespace Go.Proofs.Ytbkfdpdcnjecbaa
open Go.RowKit
set_option linter.unusedVariables false

set_option maxHeartbeats 4000000 in
set_option maxRecDepth 100000 in
theorem safeLaw (A : Option Addr) (n c : Nat) (zs : List Int) (k : Int) (w : World) (hn : zs.length = n) (hc : n ≤ c) (hm : c ≤ maxLen) (hw : ∀ z ∈ zs, (Lit.int .i64 z).wf = true) (hA : Lies w A n (zs.map (.int .i64))) (hk : 0 ≤ k ∧ k ≤ 65535) :
    Calls Try.prog 3 #[.slice A n c, .int .u16 k] w fun e w' => e = .returned (.bool true) ∧ Below w.heap.size w w' := by
  have HN := Lib.hid (new_any A n c zs w hn hc hm hw hA)
  clear hn hw hA
  obtain ⟨i0, hi, hz0, hz1, hz2⟩ := info_parts Try.infoOrder
  go_enter Try.func3, Try.ntmps3
  go_wp2_with fail
  refine HN.out.mono ?_
  rintro e w0 ⟨g, rfl, hg, ht, hb0⟩
  generalize zs.take 400 = r at *
  have hg0 := ht.lt
  have Hb0 := Lib.hid hb0
  have Ht := Lib.hid ht
  have hs0 := hb0.size
  clear ht hb0
  go_wp2_with fail
  refine (next_any g r 6 _ (Ht.out.alloc _) (by omega)).mono ?_
  rintro e w1 ⟨rfl, ht1, hg1⟩
  have hn6 := nx_bd r 6 (by omega)
  have Hx1 := Lib.hid ((TB.new w0 none 0 0 none 0 0).grown hg1 (by intro e; injection e; omega))
  have Hgw : Hid (w0.grownBy w1 (some g)) := Lib.hid ⟨hg1.os, hg1.tape, hg1.output, by have := hg1.size; simp at this; omega, fun i hi hne => (hg1.block i (by simp; omega) hne).trans (Below.heap_alloc w0 _ i hi)⟩
  have Ht1 := Lib.hid ht1
  obtain ⟨N, hN⟩ := Int.eq_ofNat_of_zero_le hn6.1
  rw [hN] at hn6 ⊢
  clear hN ht1 hg1
  go_wp2
  go_loopw [7, 8, 9] (fun l sf k wr => ∃ (j q : Nat) (os : List Ord4) (s u r : List Int) (A : Option Addr) (n c : Nat) (B : Option Addr) (m d : Nat), k = .int .i64 (j : Int) ∧ sf = .int .i64 (q : Int) ∧ os.length + j ≤ 5 ∧ SF s u os q ∧ SInv w0 wr g A n c B m d l os s u r) (fun _ _ k _ => (intOf k).toNat)
  case atStart =>
    exact ⟨N, 0, [], [], [], r.tail, none, 0, 0, none, 0, 0, rfl, rfl, by simp; omega, SF.nil, ⟨Hx1.out, Sl8.nil_ _, Sl8.nil_ _, World.ownsRow_nil _ _ _ _, Ht1.out, Hgw.out, fun h => absurd h (by omega), fun h => absurd h (by omega)⟩⟩
  case round =>
    obtain ⟨j, q, os, s, u, r', C, n, c, D, m, d, rfl, rfl, hcnt, hsf, hinv⟩ := hrel
    obtain ⟨X, lc, rfl, hXl, hlc⟩ := own_slice hinv.own
    obtain ⟨x0, x1, _, _⟩ := hinv.b1.facts
    have hns : n ≤ 100000 ∧ m ≤ 90000 := by
      have h1 := congrArg List.length hsf.bytes
      rw [List.length_append, recs_len, hinv.sA.len, hinv.sB.len] at h1
      omega
    have Hsf := Lib.hid hsf
    have Hinv := Lib.hid hinv
    have HXl := Lib.hid hXl
    have hlt := hinv.lt
    clear hsf hinv hXl
    by_cases hj : 0 < j
    · obtain ⟨j, rfl⟩ : ∃ i, j = i + 1 := ⟨j - 1, by omega⟩
      have hjc : ((j + 1 : Nat) : Int) = (j : Int) + 1 := by omega
      rw [hjc]
      clear hjc
      go_wp2_with fail
      refine (order2_any g r' ((os.length : Int) + 1) _ Hinv.out.tp).mono ?_
      rintro e wb ⟨rfl, htb, hgb⟩
      have Hib := Lib.hid (Hinv.out.next hg0 hgb htb)
      have Hst := Lib.hid (Hsf.out.step (by omega) r' _ rfl)
      generalize mkO r' ((os.length : Int) + 1) = o at *
      obtain ⟨x0b, x1b, _, _⟩ := Hib.out.b1.facts
      have hltb := Hib.out.lt
      clear htb hgb x0 x1
      have Hib2 := Lib.hid (Hib.out.below hg0 ((Below.refl _ _).alloc (Nat.le_refl _) (.cells #[.int .i64 o.n, .int .i64 o.f, .int .i64 o.a, .int .i64 o.d] 32)))
      go_wp2_with fail
      refine (writeP_any C D n c m d s u o _ hns Hib2.out.sA Hib2.out.sB).mono ?_
      rintro e wc ⟨A', n', c', B', m', d', rfl, hA', hB', hbc, hfr⟩
      rw [Hst.out.1] at hB' hfr ⊢
      have hfr' := hfr rfl
      have hic := Hib2.out.below hg0 hbc
      have hol := fun k h => (Hib.out.own.lt k h).2
      have HfrA : Hid (0 < n' → ∀ ad, A' = some ad → w0.heap.size ≤ ad.block ∧ (Value.slice X os.length lc).ownBlock ≠ some ad.block) := fun _ ad h => by
        have h1 := hfr'.1 ad h
        refine ⟨by simp at h1; omega, fun e => ?_⟩
        have := hol _ e
        simp at h1
        omega
      have HfrB : Hid (0 < m' → ∀ ad, B' = some ad → w0.heap.size ≤ ad.block ∧ (Value.slice X os.length lc).ownBlock ≠ some ad.block) := fun _ ad h => by
        have h1 := hfr'.2 ad h
        refine ⟨by simp at h1; omega, fun e => ?_⟩
        have := hol _ e
        simp at h1
        omega
      have hsc : wb.heap.size < wc.heap.size := by have := hbc.size; simp at this; omega
      have ho : wc.heap[wb.heap.size]? = some (.cells #[.int .i64 o.n, .int .i64 o.f, .int .i64 o.a, .int .i64 o.d] 32 (0, 0)) := (hbc.block wb.heap.size (by simp)).trans (heap_alloc_new wb _)
      obtain ⟨w4, hw4⟩ : ∃ w4 : World, w4 = wc.alloc (.cells #[.slice A' n' c', .slice B' m' d'] 28) := ⟨_, rfl⟩
      have Hi4 : Hid (SInv w0 w4 g C n c D m d (.slice X os.length lc) os s u r'.tail.tail.tail.tail) := Lib.hid (by rw [hw4]; exact hic.below hg0 ((Below.refl _ _).alloc (Nat.le_refl _) _))
      have HA4 : Hid (Sl8 w4 A' n' c' s) := Lib.hid (by rw [hw4]; exact hA'.alloc _)
      have HB4 : Hid (Sl8 w4 B' m' d' (u ++ recB o)) := Lib.hid (by rw [hw4]; exact hB'.alloc _)
      have hy4 : TB w4 wc.heap.size A' n' c' B' m' d' := by rw [hw4]; exact TB.new _ _ _ _ _ _ _
      have ho4 : w4.heap[wb.heap.size]? = some (.cells #[.int .i64 o.n, .int .i64 o.f, .int .i64 o.a, .int .i64 o.d] 32 (0, 0)) := by rw [hw4]; exact (Below.heap_alloc wc _ _ hsc).trans ho
      have hs4 : wc.heap.size < w4.heap.size := hy4.lt
      obtain ⟨y0, y1, _, _⟩ := hy4.facts
      have o0 : w4.cell? ⟨wb.heap.size, 0, none⟩ = some (.int .i64 o.n) := cell_of_row w4 _ 0 _ _ _ ho4
      have o1 : w4.cell? ⟨wb.heap.size, 1, none⟩ = some (.int .i64 o.f) := cell_of_row w4 _ 1 _ _ _ ho4
      have o2 : w4.cell? ⟨wb.heap.size, 2, none⟩ = some (.int .i64 o.a) := cell_of_row w4 _ 2 _ _ _ ho4
      have o3 : w4.cell? ⟨wb.heap.size, 3, none⟩ = some (.int .i64 o.d) := cell_of_row w4 _ 3 _ _ _ ho4
      have hfar : ∀ k, (Value.slice X os.length lc).ownBlock = some k → k < wb.heap.size := hol
      have hub := own_base Hib.out.own
      obtain ⟨xa, xb, _, _⟩ := Hi4.out.b1.facts
      go_upto_region 12 with fail
      rw [← hw4]
      have e1 : wb.heap.size ≠ wc.heap.size := by omega
      have e2 : w0.heap.size ≠ wc.heap.size := by omega
      have e3 : w0.heap.size ≠ wb.heap.size := by omega
      clear hA' hB' hfr hfr' hbc hic hol ho hw4 hy4 ho4 x0b x1b
      go_region_held3 (fun w' => w'.cell? ⟨wc.heap.size, 0, none⟩ = some (.slice A' n' c') ∧ w'.cell? ⟨wc.heap.size, 1, none⟩ = some (.slice B' m' d') ∧ w'.cell? ⟨wb.heap.size, 0, none⟩ = some (.int .i64 o.n) ∧ w'.cell? ⟨wb.heap.size, 1, none⟩ = some (.int .i64 o.f) ∧ w'.cell? ⟨wb.heap.size, 2, none⟩ = some (.int .i64 o.a) ∧ w'.cell? ⟨wb.heap.size, 3, none⟩ = some (.int .i64 o.d))
        (first
          | go_keep
          | ((repeat' apply And.intro) <;> go_keep)
          | ((repeat' apply And.intro) <;> (rw [hgA.cell_far _ (by simp; omega) (by intro e; have := hfar _ e.symm; first | omega | (simp at this; done) | (simp at this; omega))]; go_keep)))
        (first
          | (refine step_append_lies _ rfl (.tmp 39) (.tmp 41) 29 rfl (w0.heap.size + 1) 32 i0 (.agg #[.int .i64 0, .int .i64 0, .int .i64 0, .int .i64 0]) 4 32 Try.underlying29 hi hz0 hz1 hz2 rfl (by omega) (.slice X os.length lc) os.length (ordCells os) rfl ?_ ⟨w4.heap.size, 0, none⟩ 1 1 [.int .i64 o.n, .int .i64 o.f, .int .i64 o.a, .int .i64 o.d] rfl rfl ?_ (by simp [Value.oneCell']) (by omega) (by unfold maxLen; omega) (by omega) (by first | (simp; done) | (simp; omega) | omega) _ rfl ?_
             · first
                 | with_reducible exact Hi4.out.own
                 | with_reducible exact Hi4.out.own.alloc _
                 | with_reducible exact (Hi4.out.own.alloc _).drew
             · first
                 | exact World.news_of_block (cs := #[.int .i64 o.n, .int .i64 o.f, .int .i64 o.a, .int .i64 o.d]) (t := 32) (fr := (0, 0)) (heap_alloc_new_drew w4 _)
                 | with_reducible exact World.news_of_block (cs := #[.int .i64 o.n, .int .i64 o.f, .int .i64 o.a, .int .i64 o.d]) (t := 32) (fr := (0, 0)) (heap_alloc_new w4 _)
             intro gg cap wA hownA hgA hatA hltA
             have hatB : (Value.slice (some ⟨gg, 0, none⟩) (os.length + 1) cap).ownBlock = (Value.slice X os.length lc).ownBlock ∨ (Value.slice (some ⟨gg, 0, none⟩) (os.length + 1) cap).ownBlock = some (w4.alloc (.cells #[.int .i64 o.n, .int .i64 o.f, .int .i64 o.a, .int .i64 o.d] 32)).heap.size := (by
               rcases hatA with e | e
               · exact .inl (by rw [e]; rfl)
               · exact .inr (by rw [e]; rfl))
             have Hpush : Hid (SInv w0 ((wA.setCell ⟨w0.heap.size, 0, none⟩ (.slice A' n' c')).setCell ⟨w0.heap.size, 1, none⟩ (.slice B' m' d')) g A' n' c' B' m' d' (.slice (some ⟨gg, 0, none⟩) (os.length + 1) cap) (os ++ [o]) s (u ++ recB o) r'.tail.tail.tail.tail) := Lib.hid (SInv.push (Hi4.out.below hg0 (by repeat' (first | with_reducible exact Below.refl _ _ | with_reducible refine below_drewN ?_ _ | with_reducible refine Below.drew ?_ | with_reducible refine Below.alloc ?_ ?_ _ | with_reducible refine Below.setCell ?_ ?_ _ | with_reducible refine Below.trans ?_ (Below.mono (by with_reducible assumption) ?_) | (simp; done) | (simp; omega) | omega))) hg0 (HA4.out.below (by repeat' (first | with_reducible exact Below.refl _ _ | with_reducible refine below_drewN ?_ _ | with_reducible refine Below.drew ?_ | with_reducible refine Below.alloc ?_ ?_ _ | with_reducible refine Below.setCell ?_ ?_ _ | with_reducible refine Below.trans ?_ (Below.mono (by with_reducible assumption) ?_) | (simp; done) | (simp; omega) | omega))) (HB4.out.below (by repeat' (first | with_reducible exact Below.refl _ _ | with_reducible refine below_drewN ?_ _ | with_reducible refine Below.drew ?_ | with_reducible refine Below.alloc ?_ ?_ _ | with_reducible refine Below.setCell ?_ ?_ _ | with_reducible refine Below.trans ?_ (Below.mono (by with_reducible assumption) ?_) | (simp; done) | (simp; omega) | omega))) HfrA.out HfrB.out hownA hgA hatB)
             obtain ⟨_, _, xf0, xf1⟩ := (TB.grown (Hi4.out.b1.below (show Below w4.heap.size w4 _ from (by repeat' (first | with_reducible exact Below.refl _ _ | with_reducible refine below_drewN ?_ _ | with_reducible refine Below.drew ?_ | with_reducible refine Below.alloc ?_ ?_ _ | with_reducible refine Below.setCell ?_ ?_ _ | with_reducible refine Below.trans ?_ (Below.mono (by with_reducible assumption) ?_) | (simp; done) | (simp; omega) | omega)))) hgA (by intro e; have := hub _ e; omega)).facts
             clear hownA hatA hatB)
          | fail)
      all_goals
        have hw5 := Hpush.out.lt
        clear Hinv Hib Hib2 HA4 HB4 Hi4 hgA xa xb y0 y1 o0 o1 o2 o3
        go_wp2_with fail
        refine (one_any g _ 3 _ Hpush.out.tp (by omega) (by omega)).mono ?_
        rintro e wg ⟨rfl, htg, hgg⟩
        have Hig := Lib.hid (Hpush.out.next hg0 hgg htg)
        clear htg hgg Hpush
        obtain ⟨x0g, x1g, f0g, f1g⟩ := Hig.out.b1.facts
        rcases hone : oneB r'.tail.tail.tail.tail 3 with _ | _
        · clear hone
          go_wp2
          go_roundw
          case rel => exact ⟨j, q, os ++ [o], s, u ++ recB o, _, A', n', c', B', m', d', by go_num, rfl, by simp; omega, Hst.out.2.1, Hig.out⟩
          case measure => simp [intOf]
        · clear hone
          have hns2 : n' ≤ 100000 ∧ m' ≤ 100000 := by
            have h1 := congrArg List.length Hst.out.2.1.bytes
            rw [List.length_append, recs_len, Hig.out.sA.len, Hig.out.sB.len] at h1
            simp at h1
            omega
          go_wp2_with fail
          refine (syncP_any A' B' n' c' m' d' s (u ++ recB o) _ hns2 Hig.out.sA Hig.out.sB).mono ?_
          rintro e wh ⟨A2, n2, c2, B2, m2, d2, rfl, hA2, hB2, hbh, hf2, hf3⟩
          have hol2 := fun k h => (Hig.out.own.lt k h).2
          have hlg := Hig.out.lt
          have hih := Hig.out.below hg0 hbh
          have Hst2 : Hid (SInv w0 ((wh.setCell ⟨w0.heap.size, 0, none⟩ (.slice A2 n2 c2)).setCell ⟨w0.heap.size, 1, none⟩ (.slice B2 m2 d2)) g A2 n2 c2 B2 m2 d2 _ (os ++ [o]) (s ++ (u ++ recB o)) [] _) := Lib.hid (hih.store hg0 hA2 hB2
            (fun _ ad h => ⟨by have := hf2 ad h; omega, fun e => by have h1 := hf2 ad h; have := hol2 _ e; omega⟩) (fun _ ad h => ⟨by have := hf3 ad h; omega, fun e => by have h1 := hf3 ad h; have := hol2 _ e; omega⟩))
          obtain ⟨x0h, x1h, f0h, f1h⟩ := hih.b1.facts
          clear hA2 hB2 hbh hf2 hf3 hol2 hih x0g x1g f0g f1g
          go_wp2
          go_roundw
          case rel => exact ⟨j, os.length + 1, os ++ [o], s ++ (u ++ recB o), [], _, A2, n2, c2, B2, m2, d2, by go_num, by go_num, by simp; omega, Hst.out.2.2, Hst2.out⟩
          case measure => simp [intOf]
    · obtain rfl : j = 0 := by omega
      have hkq1 : 0 ≤ k % 200 ∧ k % 200 ≤ 199 := by omega
      obtain ⟨J, hJ1, hJ2⟩ := Hsf.out.crash (keepN (k % 200) m)
      have HJ1 := Lib.hid hJ1
      have hbl : (os.take (J / 28)).length ≤ os.length := by rw [List.length_take]; omega
      have hbe : os.take (J / 28) = os.take (os.take (J / 28)).length := by rw [List.length_take, List.take_eq_take_iff]; omega
      have hwr : Below w.heap.size w wr := below_only Hb0.out Hinv.out.gr hg hs0
      have Hwr := Lib.hid hwr
      have hsr := hwr.size
      clear hJ1 hwr
      go_wp2_with fail
      refine (crashP_any C D n c m d s u (k % 200) _ (by omega) (by omega) Hinv.out.sA Hinv.out.sB).mono ?_
      rintro e w5 ⟨A5, n5, c5, B5, m5, d5, rfl, hA5, hB5, hb5, _⟩
      rw [HJ1.out] at hA5
      have hn5 : n5 ≤ 1000 ∧ m5 = 0 := by
        have h1 := hA5.len
        have h2 := hB5.len
        rw [List.length_take, recs_len] at h1
        simp at h2
        omega
      obtain ⟨hn5a, rfl⟩ := hn5
      have HA5 := Lib.hid hA5
      have HB5 := Lib.hid hB5
      have Hb5 := Lib.hid hb5
      have hs5 := hb5.size
      clear hA5 hB5 hb5 HJ1
      go_wp2_with fail
      refine (ordersP_any A5 B5 n5 c5 0 d5 ((recs os).take J) [] _ (by omega) HA5.out HB5.out).mono ?_
      rintro e w6 ⟨v6, rfl, hown6, hb6⟩
      rw [List.append_nil] at hown6 ⊢
      rw [ordsB_take os J Hsf.out.grow] at hown6
      generalize ((ordsB ((recs os).take J)).2.length : Int) = junk
      generalize hbb : (os.take (J / 28)).length = b at *
      rw [hbe] at hown6 hbb
      clear hbe
      obtain ⟨G, gc, rfl, hG, _⟩ := own_slice hown6
      have Hbb := Lib.hid hbb
      have HG := Lib.hid hG
      have Hb6 : Hid (Below wr.heap.size wr w6) := Lib.hid (Hb5.out.trans (hb6.mono hs5))
      have hs6 := Hb6.out.size
      have HT := Lib.hid (Lies.take_ord (HXl.out.below Hb6.out) b hbl)
      have HX6 := Lib.hid (HXl.out.below Hb6.out)
      obtain ⟨x06, x16, _, _⟩ := (Hinv.out.b1.below Hb6.out).facts
      have i1 : (b : Int) ≤ (lc : Int) := by omega
      have i2 : ¬ (b : Int) < (q : Int) := by omega
      have i3 : ¬ (os.length : Int) < (b : Int) := by omega
      have i4 : ¬ os.length < b := by omega
      have i5 : ¬ b < q := by omega
      clear hown6 hb6 hbb hG Hb5 HA5 HB5 x0 x1
      go_upto_region 18 with (first
        | (go_at_call 17; refine (lists_any _ _ _ _ _ _ (os.take b) (os.take b) _ Hbb.out Hbb.out (by omega) (by omega) HG.out HT.out).mono ?_; rintro e w7 ⟨rfl, hb7⟩; rw [decide_eq_true rfl]; obtain ⟨x07, x17, _, _⟩ := ((Hinv.out.b1.below Hb6.out).below hb7).facts)
        | fail)
      have Hb7 : Hid (Below wr.heap.size wr w7) := Lib.hid (Hb6.out.trans (hb7.mono hs6))
      have hs7 := Hb7.out.size
      clear hb7
      go_wp2_with fail
      refine (ordersP_any C D n c m d s u _ (by omega) (Hinv.out.sA.below Hb7.out) (Hinv.out.sB.below Hb7.out)).mono ?_
      rintro e w8 ⟨v8, rfl, hown8, hb8⟩
      rw [Hsf.out.bytes, ordsB_all _ Hsf.out.grow] at hown8 ⊢
      obtain ⟨E, ec, rfl, hE, _⟩ := own_slice hown8
      have HE := Lib.hid hE
      have Hb8 : Hid (Below wr.heap.size wr w8) := Lib.hid (Hb7.out.trans (hb8.mono hs7))
      clear hE hown8 hb8
      go_wp2_with (first
        | (go_at_call 17; refine (lists_any _ _ _ _ _ _ os os _ rfl rfl (by omega) (by omega) HE.out (HXl.out.below Hb8.out)).mono ?_; rintro e w9 ⟨rfl, hb9⟩; rw [decide_eq_true rfl])
        | (go_at_call 18; refine (awake_any _).mono ?_; rintro e wx ⟨rfl, hbx⟩)
        | fail)
      all_goals go_ret
      all_goals exact ⟨rfl, Hwr.out.trans ((Hb8.out.trans ((hb9.trans (hbx.mono hb9.size)).mono Hb8.out.size)).mono hsr)⟩
end Go.Proofs.Ytbkfdpdcnjecbaa
