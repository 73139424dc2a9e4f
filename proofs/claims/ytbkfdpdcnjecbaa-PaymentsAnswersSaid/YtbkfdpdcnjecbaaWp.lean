/- Contract: Write (payments). -/
import Derived.Test.YtbkfdpdcnjecbaaTo
import Derived.Test.YtbkfdpdcnjecbaaTc
import Derived.Test.YtbkfdpdcnjecbaaTt
import Derived.Test.YtbkfdpdcnjecbaaQ
import Derived.Deep.DeepMust
import Derived.Deep.RegionLaw
namespace Go.Proofs.Ytbkfdpdcnjecbaa
open Go.RowKit
set_option linter.unusedVariables false

theorem takes_28 {acc : List Ord4} {l : List Int} (h : takes acc l = true) : 28 ≤ l.length := by
  simp [takes] at h
  omega
theorem ordsA_count (k : Nat) : ∀ (acc : List Ord4) (l : List Int), (ordsA k acc l).1.length * 28 + (ordsA k acc l).2.length = acc.length * 28 + l.length := by
  induction k with
  | zero => intro acc l; rfl
  | succ k ih =>
    intro acc l
    unfold ordsA
    split
    · rename_i h
      have h1 := takes_28 h
      have := ih (acc ++ [ordOf (l.take 28)]) (l.drop 28)
      rw [List.length_drop, List.length_append] at this
      simp at this
      omega
    · rfl
theorem ordsB_count (l : List Int) : (ordsB l).1.length * 28 + (ordsB l).2.length = l.length := by
  have := ordsA_count l.length [] l
  simp at this
  exact this
theorem Sl8.grown {w w' : World} {A : Option Addr} {n c : Nat} {l : List Int} {row : Option Nat} (h : Sl8 w A n c l) (hg : w.grownBy w' row) (hr : ∀ ad, A = some ad → row ≠ some ad.block) : Sl8 w' A n c l := by
  refine ⟨h.len, h.cap, h.top, h.byt, ?_⟩
  rcases h.lies with h0 | ⟨b, off, rfl, hlt, hcell⟩
  · exact .inl h0
  · exact .inr ⟨b, off, rfl, Nat.lt_of_lt_of_le hlt hg.size, fun j u hu => (World.cell?_of_block (a := ⟨b, off + j, none⟩) (hg.block b hlt (fun e => hr _ rfl e.symm))).trans (hcell j u hu)⟩
/-- The variables of Write: the tape, the order, the result, the copy. -/
structure WVars (w : World) (g k : Nat) (A : Option Addr) (n c : Nat) (B : Option Addr) (m d : Nat) (o : Ord4) (C : Option Addr) (p e : Nat) (D : Option Addr) (q f : Nat) : Prop where
  tape : w.heap[g]? = some (.cells #[.slice A n c, .slice B m d] 28 (0, 0))
  order : w.heap[g + 1]? = some (.cells #[.int .i64 o.n, .int .i64 o.f, .int .i64 o.a, .int .i64 o.d] 32 (0, 0))
  res : w.heap[g + 1 + 1]? = some (.cells #[.slice none 0 0, .slice none 0 0] 28 (0, 0))
  out : w.heap[k]? = some (.cells #[.slice C p e, .slice D q f] 28 (0, 0))
  lt : g + 2 < k
section
variable {w w' : World} {g k : Nat} {A : Option Addr} {n c : Nat} {B : Option Addr} {m d : Nat} {o : Ord4} {C : Option Addr} {p e : Nat} {D : Option Addr} {q f : Nat}
theorem WVars.klt (h : WVars w g k A n c B m d o C p e D q f) : k < w.heap.size := by
  rcases Nat.lt_or_ge k w.heap.size with h' | h'
  · exact h'
  · have := h.out; rw [Array.getElem?_eq_none h'] at this; cases this
theorem WVars.below (h : WVars w g k A n c B m d o C p e D q f) (hb : Below w.heap.size w w') : WVars w' g k A n c B m d o C p e D q f := by
  have h1 := h.klt
  have h2 := h.lt
  exact ⟨(hb.block _ (by omega)).trans h.tape, (hb.block _ (by omega)).trans h.order, (hb.block _ (by omega)).trans h.res, (hb.block _ h1).trans h.out, h2⟩
theorem WVars.facts (h : WVars w g k A n c B m d o C p e D q f) :
    (w.cell? ⟨g + 1, 0, none⟩ = some (.int .i64 o.n) ∧ w.cell? ⟨g + 1, 1, none⟩ = some (.int .i64 o.f) ∧ w.cell? ⟨g + 1, 2, none⟩ = some (.int .i64 o.a) ∧ w.cell? ⟨g + 1, 3, none⟩ = some (.int .i64 o.d)) ∧
    (w.cell? ⟨g + 1 + 1, 0, none⟩ = some (.slice none 0 0) ∧ w.cell? ⟨g + 1 + 1, 1, none⟩ = some (.slice none 0 0) ∧ w.frozen? ⟨g + 1 + 1, 0, none⟩ = false ∧ w.frozen? ⟨g + 1 + 1, 1, none⟩ = false) ∧
    (w.cell? ⟨k, 0, none⟩ = some (.slice C p e) ∧ w.cell? ⟨k, 1, none⟩ = some (.slice D q f) ∧ w.frozen? ⟨k, 0, none⟩ = false ∧ w.frozen? ⟨k, 1, none⟩ = false) ∧
    (w.cell? ⟨g, 0, none⟩ = some (.slice A n c) ∧ w.cell? ⟨g, 1, none⟩ = some (.slice B m d)) :=
  ⟨⟨cell_of_row w _ 0 _ _ _ h.order, cell_of_row w _ 1 _ _ _ h.order, cell_of_row w _ 2 _ _ _ h.order, cell_of_row w _ 3 _ _ _ h.order⟩,
   ⟨cell_of_row w _ 0 _ _ _ h.res, cell_of_row w _ 1 _ _ _ h.res, frozen_of_row w _ 0 _ _ h.res, frozen_of_row w _ 1 _ _ h.res⟩,
   ⟨cell_of_row w _ 0 _ _ _ h.out, cell_of_row w _ 1 _ _ _ h.out, frozen_of_row w _ 0 _ _ h.out, frozen_of_row w _ 1 _ _ h.out⟩,
   ⟨cell_of_row w _ 0 _ _ _ h.tape, cell_of_row w _ 1 _ _ _ h.tape⟩⟩
end

set_option maxHeartbeats 1600000 in
set_option maxRecDepth 100000 in
theorem writeP_any (A B : Option Addr) (n c m d : Nat) (xs ys : List Int) (o : Ord4) (w : World) (hs : n ≤ 100000 ∧ m ≤ 90000) (hA : Sl8 w A n c xs) (hB : Sl8 w B m d ys) :
    Calls Try.prog 12 #[.agg #[.slice A n c, .slice B m d], .agg #[.int .i64 o.n, .int .i64 o.f, .int .i64 o.a, .int .i64 o.d]] w (TapeEPost w xs (writeB xs ys o).1 (writeB xs ys o).2) := by
  obtain ⟨i0, hi, hz0, hz1, hz2⟩ := info_parts Try.infoByte
  have HA := Lib.hid hA
  have HB := Lib.hid hB
  clear hA hB
  go_enter Try.func12, Try.ntmps12
  go_wp2_with fail
  refine (cloneP_any A B n c m d xs ys _ (by omega) (HA.out.below (by repeat' (first | with_reducible exact Below.refl _ _ | with_reducible refine below_drewN ?_ _ | with_reducible refine Below.drew ?_ | with_reducible refine Below.alloc ?_ ?_ _ | with_reducible refine Below.setCell ?_ ?_ _ | with_reducible refine Below.trans ?_ (Below.mono (by with_reducible assumption) ?_) | (simp; done) | (simp; omega) | omega))) (HB.out.below (by repeat' (first | with_reducible exact Below.refl _ _ | with_reducible refine below_drewN ?_ _ | with_reducible refine Below.drew ?_ | with_reducible refine Below.alloc ?_ ?_ _ | with_reducible refine Below.setCell ?_ ?_ _ | with_reducible refine Below.trans ?_ (Below.mono (by with_reducible assumption) ?_) | (simp; done) | (simp; omega) | omega)))).mono ?_
  rintro e w1 ⟨v1, v2, rfl, hown1, hown2, hne, hb1⟩
  obtain ⟨C, q, rfl, hC⟩ := Sl8.of_own hown1 rfl HA.out.byt
  obtain ⟨D, f, rfl, hD⟩ := Sl8.of_own hown2 rfl HB.out.byt
  have hbw1 : Below w.heap.size w w1 := (by repeat' (first | with_reducible exact Below.refl _ _ | with_reducible refine below_drewN ?_ _ | with_reducible refine Below.drew ?_ | with_reducible refine Below.alloc ?_ ?_ _ | with_reducible refine Below.setCell ?_ ?_ _ | with_reducible refine Below.trans ?_ (Below.mono (by with_reducible assumption) ?_) | (simp; done) | (simp; omega) | omega))
  have hs1 : w.heap.size + 2 < w1.heap.size := by have := hb1.size; simp at this; omega
  have hv : Hid (WVars (w1.alloc (.cells #[.slice C xs.length q, .slice D ys.length f] 28)) w.heap.size w1.heap.size A n c B m d o C xs.length q D ys.length f) := by
    have e1 : ∀ k, k < w.heap.size + 3 → (w1.alloc (.cells #[.slice C xs.length q, .slice D ys.length f] 28)).heap[k]? = (((w.alloc (.cells #[.slice A n c, .slice B m d] 28)).alloc (.cells #[.int .i64 o.n, .int .i64 o.f, .int .i64 o.a, .int .i64 o.d] 32)).alloc (.cells #[.slice none 0 0, .slice none 0 0] 28)).heap[k]? := fun k hk =>
      (Below.heap_alloc w1 _ k (by omega)).trans (hb1.block k (by simp; omega))
    refine ⟨(e1 _ (by omega)).trans ?_, (e1 _ (by omega)).trans ?_, (e1 _ (by omega)).trans ?_, heap_alloc_new w1 _, hs1⟩
    · rw [Below.heap_alloc _ _ _ (by simp; omega)]
      exact heap_alloc2_old w _ _
    · rw [Below.heap_alloc _ _ _ (by simp)]
      exact heap_alloc2_new w _ _
    · have := heap_alloc_new ((w.alloc (.cells #[.slice A n c, .slice B m d] 28)).alloc (.cells #[.int .i64 o.n, .int .i64 o.f, .int .i64 o.a, .int .i64 o.d] 32)) (.cells #[.slice none 0 0, .slice none 0 0] 28)
      simpa using this
  have hs0 : w.heap.size < w1.heap.size := by omega
  have hs01 : w.heap.size + 1 < w1.heap.size := by omega
  have hs02 : w.heap.size + 1 + 1 < w1.heap.size := by omega
  have hg0 : w1.heap[w.heap.size]? = some (.cells #[.slice A n c, .slice B m d] 28 (0, 0)) := by
    have h1 := hv.out.tape
    rwa [Below.heap_alloc w1 _ w.heap.size (by omega)] at h1
  have t0 : w1.cell? ⟨w.heap.size, 0, none⟩ = some (.slice A n c) := cell_of_row w1 _ 0 _ _ _ hg0
  have t1 : w1.cell? ⟨w.heap.size, 1, none⟩ = some (.slice B m d) := cell_of_row w1 _ 1 _ _ _ hg0
  clear hg0
  have hlt1 := fun k h => hown1.lt k h
  have hlt2 := fun k h => hown2.lt k h
  have Hown2 := Lib.hid hown2
  have HC := Lib.hid hC
  have HD := Lib.hid hD
  have Hbw1 := Lib.hid hbw1
  simp only [World.size_alloc] at hlt1 hlt2
  clear hb1 hown1 hown2 hC hD hbw1
  go_wp2_with fail
  refine (ordersP_any A B n c m d xs ys _ (by omega) (HA.out.below (by have hbw1 := Hbw1.out; exact (by repeat' (first | with_reducible exact Below.refl _ _ | with_reducible assumption | with_reducible refine below_drewN ?_ _ | with_reducible refine Below.drew ?_ | with_reducible refine Below.alloc ?_ ?_ _ | with_reducible refine Below.setCell ?_ ?_ _ | with_reducible refine Below.trans ?_ (Below.mono (by with_reducible assumption) ?_) | with_reducible refine below_only ?_ (by with_reducible assumption) ?_ ?_ | (simp; done) | (simp; omega) | omega)))) (HB.out.below (by have hbw1 := Hbw1.out; exact (by repeat' (first | with_reducible exact Below.refl _ _ | with_reducible assumption | with_reducible refine below_drewN ?_ _ | with_reducible refine Below.drew ?_ | with_reducible refine Below.alloc ?_ ?_ _ | with_reducible refine Below.setCell ?_ ?_ _ | with_reducible refine Below.trans ?_ (Below.mono (by with_reducible assumption) ?_) | with_reducible refine below_only ?_ (by with_reducible assumption) ?_ ?_ | (simp; done) | (simp; omega) | omega))))).mono ?_
  rintro e w2 ⟨v3, rfl, hown3, hb2⟩
  obtain ⟨A3, c3, rfl, hlies3, hnc3, hcm3⟩ := own_slice hown3
  have hv2 := hv.out.below hb2
  have Hv2 := Lib.hid hv2
  have hbw2 : Below w.heap.size w w2 := by have hbw1 := Hbw1.out; exact (by repeat' (first | with_reducible exact Below.refl _ _ | with_reducible assumption | with_reducible refine below_drewN ?_ _ | with_reducible refine Below.drew ?_ | with_reducible refine Below.alloc ?_ ?_ _ | with_reducible refine Below.setCell ?_ ?_ _ | with_reducible refine Below.trans ?_ (Below.mono (by with_reducible assumption) ?_) | with_reducible refine below_only ?_ (by with_reducible assumption) ?_ ?_ | (simp; done) | (simp; omega) | omega))
  have HC2 := Lib.hid ((HC.out.alloc _).below hb2)
  have HD2 := Lib.hid ((HD.out.alloc _).below hb2)
  have Hown22 := Lib.hid (ownsRow_below (Hown2.out.alloc _) hb2)
  have Hown3 := Lib.hid hown3
  have Hl3 := Lib.hid hlies3
  have Hbw2 := Lib.hid hbw2
  have hs2 : w1.heap.size < w2.heap.size := hv2.klt
  obtain ⟨⟨o0, o1, o2, o3⟩, ⟨r0, r1, f0, f1⟩, ⟨q0, q1, g0, g1⟩, t0, t1⟩ := hv2.facts
  have Hlen : Hid ((xs ++ ys).length = n + m) := by
    show (xs ++ ys).length = n + m
    rw [List.length_append, HA.out.len, HB.out.len]
  have Hle := Lib.hid (ordsB_len (xs ++ ys))
  have Hwb : Hid (writeB xs ys o = if 0 < (ordsB (xs ++ ys)).2.length then (ys, 72) else if rightB o = false then (ys, 75) else if o.n ≤ lastN (ordsB (xs ++ ys)).1 then (ys, 71) else if 200 ≤ (ordsB (xs ++ ys)).1.length then (ys, 73) else (ys ++ recB o, 0)) := rfl
  have Hend : Hid (∀ (x : Int) W, Below w2.heap.size w2 W → x ≠ 0 → writeB xs ys o = (ys, x) → TapeEPost w xs (writeB xs ys o).1 (writeB xs ys o).2 (.returned (.tuple #[.agg #[.slice C xs.length q, .slice D ys.length f], .int .i64 x])) ((W.setCell ⟨w.heap.size + 1 + 1, 0, none⟩ (.slice C xs.length q)).setCell ⟨w.heap.size + 1 + 1, 1, none⟩ (.slice D ys.length f))) := by
    intro x W hW hx0 hx
    rw [hx]
    have hvW := Hv2.out.below hW
    have hbw2 := Hbw2.out
    have hs3 := hW.size
    refine ⟨_, _, _, _, _, _, rfl, (HC2.out.below hW).box hvW.res _ _, (HD2.out.below hW).box hvW.res _ _, (by repeat' (first | with_reducible exact Below.refl _ _ | with_reducible assumption | with_reducible refine below_drewN ?_ _ | with_reducible refine Below.drew ?_ | with_reducible refine Below.alloc ?_ ?_ _ | with_reducible refine Below.setCell ?_ ?_ _ | with_reducible refine Below.trans ?_ (Below.mono (by with_reducible assumption) ?_) | with_reducible refine below_only ?_ (by with_reducible assumption) ?_ ?_ | (simp; done) | (simp; omega) | omega)), fun h => absurd h hx0⟩
  have hol : (ordsB (xs ++ ys)).1.length ≤ 1000000 := by
    have := ordsB_count (xs ++ ys)
    have := Hlen.out
    omega
  generalize (ordsB (xs ++ ys)).1 = os at *
  generalize (ordsB (xs ++ ys)).2.length = rl at *
  generalize writeB xs ys o = wb at *
  clear hv2 hbw2 hown3 hlies3 hb2
  by_cases hrl : 0 < rl
  · have hend := Hend.out 72 w2 (Below.refl _ _) (by decide) (by rw [Hwb.out, if_pos hrl])
    have Hend2 := Lib.hid hend
    clear hend
    go_wp2
    refine bodyPost_ret (v := .tuple #[.agg #[.slice C xs.length q, .slice D ys.length f], .int .i64 72]) (by simp [results, Try.results12, go_sem, *]) rfl ?_
    exact Hend2.out
  · have Hrl := Lib.hid hrl
    have hrl0 : ¬ 0 < rl := hrl
    clear hrl
    go_wp2_with fail
    refine (right_any o _).mono ?_
    rintro e w3 ⟨rfl, hb3⟩
    have hv3 := Hv2.out.below hb3
    have Hv3 := Lib.hid hv3
    have Hb3 := Lib.hid hb3
    obtain ⟨⟨o0', o1', o2', o3'⟩, ⟨r0', r1', f0', f1'⟩, ⟨q0', q1', g0', g1'⟩, t0', t1'⟩ := hv3.facts
    have hs3 : w1.heap.size < w3.heap.size := hv3.klt
    clear hv3 hb3 r0 r1 f0 f1 q0 q1 g0 g1 o0 o1 o2 o3
    rcases hro : rightB o with _ | _
    · have Hend2 := Lib.hid (Hend.out 75 w3 Hb3.out (by decide) (by rw [Hwb.out, if_neg hrl0, hro]; rfl))
      go_wp2
      refine bodyPost_ret (v := .tuple #[.agg #[.slice C xs.length q, .slice D ys.length f], .int .i64 75]) (by simp [results, Try.results12, go_sem, *]) rfl ?_
      exact Hend2.out
    · have hon : 1 ≤ o.n ∧ o.n ≤ 1125899906842624 := ((rightB_iff o).1 hro).1
      have Hro := Lib.hid hro
      have Hwb2 : Hid (wb = if o.n ≤ lastN os then (ys, 71) else if 200 ≤ os.length then (ys, 73) else (ys ++ recB o, 0)) := by
        show wb = _
        rw [Hwb.out, if_neg hrl0, hro]
        rfl
      clear hro
      go_upto_region 7 with fail
      go_cut [25] (fun s25 wz => s25 = .bool (decide (o.n ≤ lastN os)) ∧ ∃ k, wz = w3.drewN k)
      case first =>
        by_cases hos : os = []
        · have Hd : Hid (decide (o.n ≤ lastN os) = false) := by
            show decide (o.n ≤ lastN os) = false
            rw [hos]
            exact decide_eq_false (show ¬ o.n ≤ 0 by omega)
          have hl0 : decide (0 < os.length) = false := by rw [hos]; rfl
          have hl1 : ¬ 0 < os.length := by simpa using hl0
          have hl2 : ¬ (0 : Int) < (os.length : Int) := by omega
          clear hos
          go_quiet (fail)
          go_wp2
          go_meet
          case rel => exact ⟨by rw [Hd.out], _, rfl⟩
        · have hpos : 0 < os.length := List.length_pos_iff.2 hos
          obtain ⟨g3, cp3, hg3, _⟩ := Hown3.out.form hpos
          injection hg3 with e1 e2 e3
          subst e1
          subst e3
          have hi1 : os.length - 1 < os.length := by omega
          obtain ⟨b', off', hA', hbl2, z0, zz⟩ := lies_ord (Hl3.out.below Hb3.out) (os.length - 1) hi1 hi1
          injection hA' with hA'
          injection hA' with e1 e2
          subst e1
          subst e2
          have Hlast : Hid (lastN os = os[os.length - 1].n) := by
            show lastN os = os[os.length - 1].n
            unfold lastN
            rw [List.getLast?_eq_getElem?, List.getElem?_eq_getElem hi1]
          rw [← Hlast.out, Nat.zero_add] at z0
          have hlen0 : (0 : Int) ≤ (os.length : Int) - 1 := by omega
          have hlen1 : (os.length : Int) - 1 < (os.length : Int) := by omega
          clear zz Hlast hi1 hos
          by_cases hln : o.n ≤ lastN os
          all_goals
            go_quiet (fail)
            go_wp2
            go_meet
            case rel => exact ⟨by first | (simp [hln]; done) | (simp; omega), _, rfl⟩
      case rest =>
        obtain ⟨rfl, kd, rfl⟩ := hcut
        by_cases hln : o.n ≤ lastN os
        · have hlnB : decide (o.n ≤ lastN os) = true := by simp [hln]
          have Hend2 := Lib.hid (Hend.out 71 (w3.drewN kd) (below_drewN Hb3.out kd) (by decide) (by rw [Hwb2.out, if_pos hln]))
          go_wp2
          refine bodyPost_ret (v := .tuple #[.agg #[.slice C xs.length q, .slice D ys.length f], .int .i64 71]) (by simp [results, Try.results12, go_sem, *]) rfl ?_
          exact Hend2.out
        · have hlnB : decide (o.n ≤ lastN os) = false := by simp; omega
          have Hln := Lib.hid hln
          have hln' : lastN os < o.n := by omega
          clear hln
          by_cases hfull : 200 ≤ os.length
          · have Hend2 := Lib.hid (Hend.out 73 (w3.drewN kd) (below_drewN Hb3.out kd) (by decide) (by rw [Hwb2.out, if_neg (show ¬ o.n ≤ lastN os by have := Hln.out; omega), if_pos hfull]))
            go_wp2
            refine bodyPost_ret (v := .tuple #[.agg #[.slice C xs.length q, .slice D ys.length f], .int .i64 73]) (by simp [results, Try.results12, go_sem, *]) rfl ?_
            exact Hend2.out
          · have hfull' : ¬ (200 : Int) ≤ (os.length : Int) := by omega
            go_wp2
            have Hwb3 : Hid (wb = (ys ++ recB o, 0)) := by
              show wb = _
              rw [Hwb2.out, if_neg (show ¬ o.n ≤ lastN os by have := Hln.out; omega), if_neg hfull]
            have Hv4 := Lib.hid (Hv3.out.below (below_drewN (Below.refl w3.heap.size w3) kd))
            have Hb4 := Lib.hid (below_drewN Hb3.out kd)
            generalize w3.drewN kd = w4 at *
            obtain ⟨⟨o0, o1, o2, o3⟩, ⟨r0, r1, f0, f1⟩, ⟨q0, q1, g0, g1⟩, t0, t1⟩ := Hv4.out.facts
            have hs4 : w1.heap.size < w4.heap.size := Hv4.out.klt
            have Hown4 : Hid (w4.ownsRow w.heap.size 5 1 (.slice D ys.length f) ys.length (ys.map (.int .u8))) := own_mono (ownsRow_below Hown22.out Hb4.out) (by simp only [World.size_alloc]; omega)
            clear r0' r1' f0' f1' q0' q1' g0' g1' o0' o1' o2' o3' t0' t1'
            have hyl : ys.length ≤ 90000 := by rw [HB.out.len]; omega
            have hr28 : (recB o).length ≤ 28 := Nat.le_of_eq (recB_len o)
            go_region_law
              (first
                | (refine step_append_any _ rfl (.tmp 48) (.tmp 50) 26 rfl w.heap.size 5 i0 (.int .u8 0) 1 1 Try.underlying26 hi hz0 hz1 hz2 rfl (by omega) (.slice D ys.length f) ys.length (ys.map (.int .u8)) rfl (by exact Hown5.out) w5.heap.size R (recB o).length rc ((recB o).map (.int .u8)) rfl (by exact Hr5.out) (ints_oneCell .u8 (recB o)) (by unfold maxLen; omega) (by omega) (by exact hw5) ?_
                   intro v6 w6 hown6 hg6 hat6
                   have hown6' : w6.ownsRow w.heap.size 5 1 v6 (ys ++ recB o).length ((ys ++ recB o).map (.int .u8)) := (by
                     rw [List.length_append, List.map_append]
                     exact hown6)
                   obtain ⟨E, ec, rfl, hE, hEb⟩ := Sl8.of_own' hown6' rfl (HB.out.byt.app (recB_bytes o))
                   have HEb := Lib.hid hEb
                   have Hv6 : Hid (WVars w6 w.heap.size w1.heap.size A n c B m d o C xs.length q D ys.length f) := ⟨(hg6.block _ (by have := Hv5.out.klt; omega) (by intro e; have := hlt2 _ e.symm; omega)).trans Hv5.out.tape, (hg6.block _ (by have := Hv5.out.klt; omega) (by intro e; have := hlt2 _ e.symm; omega)).trans Hv5.out.order, (hg6.block _ (by have := Hv5.out.klt; omega) (by intro e; have := hlt2 _ e.symm; omega)).trans Hv5.out.res, (hg6.block _ Hv5.out.klt (by intro e; have := hlt2 _ e.symm; omega)).trans Hv5.out.out, Hv5.out.lt⟩
                   obtain ⟨⟨o0q, o1q, o2q, o3q⟩, ⟨r0q, r1q, f0q, f1q⟩, ⟨q0q, q1q, g0q, g1q⟩, t0q, t1q⟩ := Hv6.out.facts
                   have HE := Lib.hid hE
                   have Hg6 := Lib.hid hg6
                   have hs6 : w1.heap.size < w6.heap.size := Hv6.out.klt
                   clear hown6 hown6' hE hg6 hEb)
                | (go_simp
                   go_at_call 37
                   go_must (
                   refine (record_any o _ Hro.out).mono ?_
                   rintro e w5 ⟨v5, rfl, hown5r, hb5⟩
                   obtain ⟨R, rc, rfl, hR⟩ := Sl8.of_own hown5r rfl (recB_bytes o)
                   have Hr5 : Hid (Reads w5 w5.heap.size 1 R (recB o).length ((recB o).map (.int .u8))) := hR.lies.reads (by simp)
                   have Hown5 : Hid (w5.ownsRow w.heap.size 5 1 (.slice D ys.length f) ys.length (ys.map (.int .u8))) := ownsRow_below (w := w4.drew) Hown4.out hb5
                   have Hv5 : Hid (WVars w5 w.heap.size w1.heap.size A n c B m d o C xs.length q D ys.length f) := WVars.below (w := w4.drew) ⟨Hv4.out.tape, Hv4.out.order, Hv4.out.res, Hv4.out.out, Hv4.out.lt⟩ hb5
                   obtain ⟨⟨o0p, o1p, o2p, o3p⟩, ⟨r0p, r1p, f0p, f1p⟩, ⟨q0p, q1p, g0p, g1p⟩, t0p, t1p⟩ := Hv5.out.facts
                   have hw5 : w.heap.size ≤ w5.heap.size := (by have := Hv5.out.klt; omega)
                   have Hb5 : Hid (Below w4.heap.size w4 w5) := Below.trans (Below.drew (Below.refl _ _)) hb5
                   clear hown5r hb5 hR))
                | fail)
            all_goals
              go_wp2
              refine bodyPost_ret (v := .tuple #[.agg #[.slice C xs.length q, .slice E (ys ++ recB o).length ec], .int .i64 0]) (by simp [results, Try.results12, go_sem, *]) rfl ?_
              rw [Hwb3.out]
              have hbw2 := Hbw2.out
              have hs20 := hbw2.size
              have hb4 := Hb4.out
              have hs40 := hb4.size
              have hb5 := Hb5.out
              have hs50 := hb5.size
              have hbw6 : Below w.heap.size w w6 := Below.grown ((hbw2.trans (hb4.mono hs20)).trans (hb5.mono (by omega))) Hg6.out (by omega) (fun k hk => by have := hlt2 k hk; omega)
              have hC6 : Sl8 w6 C xs.length q xs := ((HC2.out.below hb4).below hb5).grown Hg6.out (fun ad h => hne ad.block (by rw [h]; rfl))
              have hg2 : ((w6.setCell ⟨w1.heap.size, 1, none⟩ (.slice E (ys ++ recB o).length ec))).heap[w.heap.size + 1 + 1]? = some (.cells #[.slice none 0 0, .slice none 0 0] 28 (0, 0)) :=
                (Below.heap_setCell w6 _ _ _ (by simp; omega)).trans Hv6.out.res
              have h1 := (hC6.far0 (p := ⟨w1.heap.size, 1, none⟩) (hC6.off_box Hv6.out.out) (.slice E (ys ++ recB o).length ec)).box hg2 (.slice C xs.length q) (.slice E (ys ++ recB o).length ec)
              have h2 := (HE.out.far0 (p := ⟨w1.heap.size, 1, none⟩) (HE.out.off_box Hv6.out.out) (.slice E (ys ++ recB o).length ec)).box hg2 (.slice C xs.length q) (.slice E (ys ++ recB o).length ec)
              refine ⟨_, _, _, _, _, _, rfl, ?_, ?_, ?_, fun _ => ⟨fun ad h => by have := hlt1 ad.block (by rw [h]; rfl); omega, HEb.out⟩⟩
              · simpa using h1
              · simpa using h2
              · have h3 := ((hbw6.setCell (p := ⟨w1.heap.size, 1, none⟩) (by simp; omega) (.slice E (ys ++ recB o).length ec)).setCell (p := ⟨w.heap.size + 1 + 1, 0, none⟩) (by simp; omega) (.slice C xs.length q)).setCell (p := ⟨w.heap.size + 1 + 1, 1, none⟩) (by simp; omega) (.slice E (ys ++ recB o).length ec)
                simpa using h3
end Go.Proofs.Ytbkfdpdcnjecbaa
