/- Contract: Write (reference). -/
import Derived.Test.YtbkfdpdcnjecbaaWp
import Derived.Test.YtbkfdpdcnjecbaaRo
namespace Go.Proofs.Ytbkfdpdcnjecbaa
open Go.RowKit
set_option linter.unusedVariables false

/-- The variables of Write (reference): the tape, the order, the result. -/
structure RVars (w : World) (g : Nat) (A : Option Addr) (n c : Nat) (B : Option Addr) (m d : Nat) (o : Ord4) : Prop where
  tape : w.heap[g]? = some (.cells #[.slice A n c, .slice B m d] 28 (0, 0))
  order : w.heap[g + 1]? = some (.cells #[.int .i64 o.n, .int .i64 o.f, .int .i64 o.a, .int .i64 o.d] 32 (0, 0))
  res : w.heap[g + 1 + 1]? = some (.cells #[.slice none 0 0, .slice none 0 0] 28 (0, 0))
section
variable {w w' : World} {g : Nat} {A : Option Addr} {n c : Nat} {B : Option Addr} {m d : Nat} {o : Ord4}
theorem RVars.lt (h : RVars w g A n c B m d o) : g + 1 + 1 < w.heap.size := by
  rcases Nat.lt_or_ge (g + 1 + 1) w.heap.size with h' | h'
  · exact h'
  · have := h.res; rw [Array.getElem?_eq_none h'] at this; cases this
theorem RVars.keep (h : RVars w g A n c B m d o) (hk : ∀ b, b ≤ g + 1 + 1 → w'.heap[b]? = w.heap[b]?) : RVars w' g A n c B m d o :=
  ⟨(hk _ (by omega)).trans h.tape, (hk _ (by omega)).trans h.order, (hk _ (by omega)).trans h.res⟩
theorem RVars.below {b : Nat} (h : RVars w g A n c B m d o) (hb : Below b w w') (hg : g + 1 + 1 < b) : RVars w' g A n c B m d o := h.keep fun k hk => hb.block k (by omega)
theorem RVars.grown {row : Option Nat} (h : RVars w g A n c B m d o) (hg : w.grownBy w' row) (hr : ∀ k, row = some k → g + 1 + 1 < k) : RVars w' g A n c B m d o := h.keep fun k hk => hg.block k (by have := h.lt; omega) (fun e => by have := hr _ e.symm; omega)
theorem RVars.new (w : World) (A : Option Addr) (n c : Nat) (B : Option Addr) (m d : Nat) (o : Ord4) : RVars (((w.alloc (.cells #[.slice A n c, .slice B m d] 28)).alloc (.cells #[.int .i64 o.n, .int .i64 o.f, .int .i64 o.a, .int .i64 o.d] 32)).alloc (.cells #[.slice none 0 0, .slice none 0 0] 28)) w.heap.size A n c B m d o := by
  refine ⟨?_, ?_, ?_⟩
  · rw [Below.heap_alloc _ _ _ (by simp; omega)]
    exact heap_alloc2_old w _ _
  · rw [Below.heap_alloc _ _ _ (by simp)]
    exact heap_alloc2_new w _ _
  · have := heap_alloc_new ((w.alloc (.cells #[.slice A n c, .slice B m d] 28)).alloc (.cells #[.int .i64 o.n, .int .i64 o.f, .int .i64 o.a, .int .i64 o.d] 32)) (.cells #[.slice none 0 0, .slice none 0 0] 28)
    simpa using this
theorem RVars.facts (h : RVars w g A n c B m d o) :
    (w.cell? ⟨g + 1, 0, none⟩ = some (.int .i64 o.n) ∧ w.cell? ⟨g + 1, 1, none⟩ = some (.int .i64 o.f) ∧ w.cell? ⟨g + 1, 2, none⟩ = some (.int .i64 o.a) ∧ w.cell? ⟨g + 1, 3, none⟩ = some (.int .i64 o.d)) ∧
    (w.cell? ⟨g + 1 + 1, 0, none⟩ = some (.slice none 0 0) ∧ w.cell? ⟨g + 1 + 1, 1, none⟩ = some (.slice none 0 0) ∧ w.frozen? ⟨g + 1 + 1, 0, none⟩ = false ∧ w.frozen? ⟨g + 1 + 1, 1, none⟩ = false) ∧
    (w.cell? ⟨g, 0, none⟩ = some (.slice A n c) ∧ w.cell? ⟨g, 1, none⟩ = some (.slice B m d)) :=
  ⟨⟨cell_of_row w _ 0 _ _ _ h.order, cell_of_row w _ 1 _ _ _ h.order, cell_of_row w _ 2 _ _ _ h.order, cell_of_row w _ 3 _ _ _ h.order⟩,
   ⟨cell_of_row w _ 0 _ _ _ h.res, cell_of_row w _ 1 _ _ _ h.res, frozen_of_row w _ 0 _ _ h.res, frozen_of_row w _ 1 _ _ h.res⟩,
   ⟨cell_of_row w _ 0 _ _ _ h.tape, cell_of_row w _ 1 _ _ _ h.tape⟩⟩
end

set_option maxHeartbeats 1600000 in
set_option maxRecDepth 100000 in
theorem writeR_any (A B : Option Addr) (n c m d : Nat) (xs ys : List Int) (o : Ord4) (w : World) (hs : n ≤ 100000 ∧ m ≤ 90000) (hA : Sl8 w A n c xs) (hB : Sl8 w B m d ys) :
    Calls Try.prog 31 #[.agg #[.slice A n c, .slice B m d], .agg #[.int .i64 o.n, .int .i64 o.f, .int .i64 o.a, .int .i64 o.d]] w (TapeEPost w xs (writeB xs ys o).1 (writeB xs ys o).2) := by
  obtain ⟨i0, hi, hz0, hz1, hz2⟩ := info_parts Try.infoByte
  have HA := Lib.hid hA
  have HB := Lib.hid hB
  clear hA hB
  go_enter Try.func31, Try.ntmps31
  go_wp2_with fail
  refine (ordersR_any A B n c m d xs ys _ (by omega) (HA.out.below (by repeat' (first | with_reducible exact Below.refl _ _ | with_reducible refine below_drewN ?_ _ | with_reducible refine Below.drew ?_ | with_reducible refine Below.alloc ?_ ?_ _ | with_reducible refine Below.setCell ?_ ?_ _ | with_reducible refine Below.trans ?_ (Below.mono (by with_reducible assumption) ?_) | (simp; done) | (simp; omega) | omega))) (HB.out.below (by repeat' (first | with_reducible exact Below.refl _ _ | with_reducible refine below_drewN ?_ _ | with_reducible refine Below.drew ?_ | with_reducible refine Below.alloc ?_ ?_ _ | with_reducible refine Below.setCell ?_ ?_ _ | with_reducible refine Below.trans ?_ (Below.mono (by with_reducible assumption) ?_) | (simp; done) | (simp; omega) | omega)))).mono ?_
  rintro e w2 ⟨v3, rfl, hown3, hb2⟩
  obtain ⟨A3, c3, rfl, hlies3, hnc3, hcm3⟩ := own_slice hown3
  have hv2 := (RVars.new w A n c B m d o).below hb2 (by simp)
  have Hv2 := Lib.hid hv2
  have hbw2 : Below w.heap.size w w2 := (by repeat' (first | with_reducible exact Below.refl _ _ | with_reducible refine below_drewN ?_ _ | with_reducible refine Below.drew ?_ | with_reducible refine Below.alloc ?_ ?_ _ | with_reducible refine Below.setCell ?_ ?_ _ | with_reducible refine Below.trans ?_ (Below.mono (by with_reducible assumption) ?_) | (simp; done) | (simp; omega) | omega))
  have HA2 := Lib.hid (HA.out.below hbw2)
  have HB2 := Lib.hid (HB.out.below hbw2)
  have Hown3 := Lib.hid hown3
  have Hl3 := Lib.hid hlies3
  have Hbw2 := Lib.hid hbw2
  have hs2 : w.heap.size + 1 + 1 < w2.heap.size := hv2.lt
  obtain ⟨⟨o0, o1, o2, o3⟩, ⟨r0, r1, f0, f1⟩, t0, t1⟩ := hv2.facts
  have Hlen : Hid ((xs ++ ys).length = n + m) := by
    show (xs ++ ys).length = n + m
    rw [List.length_append, HA.out.len, HB.out.len]
  have Hwb : Hid (writeB xs ys o = if 0 < (ordsB (xs ++ ys)).2.length then (ys, 72) else if rightB o = false then (ys, 75) else if o.n ≤ lastN (ordsB (xs ++ ys)).1 then (ys, 71) else if 200 ≤ (ordsB (xs ++ ys)).1.length then (ys, 73) else (ys ++ recB o, 0)) := rfl
  have Hend : Hid (∀ (x : Int) W, Below w2.heap.size w2 W → x ≠ 0 → writeB xs ys o = (ys, x) → TapeEPost w xs (writeB xs ys o).1 (writeB xs ys o).2 (.returned (.tuple #[.agg #[.slice A n c, .slice B m d], .int .i64 x])) ((W.setCell ⟨w.heap.size + 1 + 1, 0, none⟩ (.slice A n c)).setCell ⟨w.heap.size + 1 + 1, 1, none⟩ (.slice B m d))) := by
    intro x W hW hx0 hx
    rw [hx]
    have hvW := Hv2.out.below hW hs2
    have hbw2 := Hbw2.out
    have hs3 := hW.size
    refine ⟨_, _, _, _, _, _, rfl, (HA2.out.below hW).box hvW.res _ _, (HB2.out.below hW).box hvW.res _ _, (by repeat' (first | with_reducible exact Below.refl _ _ | with_reducible assumption | with_reducible refine below_drewN ?_ _ | with_reducible refine Below.drew ?_ | with_reducible refine Below.alloc ?_ ?_ _ | with_reducible refine Below.setCell ?_ ?_ _ | with_reducible refine Below.trans ?_ (Below.mono (by with_reducible assumption) ?_) | with_reducible refine below_only ?_ (by with_reducible assumption) ?_ ?_ | (simp; done) | (simp; omega) | omega)), fun h => absurd h hx0⟩
  have hol : (ordsB (xs ++ ys)).1.length ≤ 1000000 := by
    have := ordsB_count (xs ++ ys)
    have := Hlen.out
    omega
  generalize (ordsB (xs ++ ys)).1 = os at *
  generalize (ordsB (xs ++ ys)).2.length = rl at *
  generalize writeB xs ys o = wb at *
  clear hv2 hbw2 hown3 hlies3 hb2
  by_cases hrl : 0 < rl
  · have Hend2 := Lib.hid (Hend.out 72 w2 (Below.refl _ _) (by decide) (by rw [Hwb.out, if_pos hrl]))
    go_wp2
    refine bodyPost_ret (v := .tuple #[.agg #[.slice A n c, .slice B m d], .int .i64 72]) (by simp [results, Try.results31, go_sem, *]) rfl ?_
    exact Hend2.out
  · have hrl0 : ¬ 0 < rl := hrl
    clear hrl
    go_wp2_with fail
    refine (recordR_any o _).mono ?_
    rintro e w3 ⟨vr, rfl, hownr, hb3⟩
    have hv3 := Hv2.out.below hb3 hs2
    have Hv3 := Lib.hid hv3
    have Hb3 := Lib.hid hb3
    obtain ⟨⟨o0', o1', o2', o3'⟩, ⟨r0', r1', f0', f1'⟩, t0', t1'⟩ := hv3.facts
    have hs3 : w.heap.size + 1 + 1 < w3.heap.size := hv3.lt
    clear hv3 hb3 r0 r1 f0 f1 o0 o1 o2 o3 t0 t1
    rcases hro : rightB o with _ | _
    · rw [hro] at hownr
      have Hend2 := Lib.hid (Hend.out 75 w3 Hb3.out (by decide) (by rw [Hwb.out, if_neg hrl0, hro]; rfl))
      clear hownr
      go_wp2
      refine bodyPost_ret (v := .tuple #[.agg #[.slice A n c, .slice B m d], .int .i64 75]) (by simp [results, Try.results31, go_sem, *]) rfl ?_
      exact Hend2.out
    · rw [hro] at hownr
      simp only [if_true] at hownr
      obtain ⟨R, rc, rfl, hR⟩ := Sl8.of_own hownr rfl (recB_bytes o)
      have HR := Lib.hid hR
      have hon : 1 ≤ o.n ∧ o.n ≤ 1125899906842624 := ((rightB_iff o).1 hro).1
      have Hro := Lib.hid hro
      have Hwb2 : Hid (wb = if o.n ≤ lastN os then (ys, 71) else if 200 ≤ os.length then (ys, 73) else (ys ++ recB o, 0)) := by
        show wb = _
        rw [Hwb.out, if_neg hrl0, hro]
        rfl
      clear hR hownr
      go_upto_region 7 with fail
      go_cut [41] (fun s25 wz => s25 = .bool (decide (o.n ≤ lastN os)) ∧ ∃ k, wz = w3.drewN k)
      case first =>
        by_cases hos : os = []
        · have Hd : Hid (decide (o.n ≤ lastN os) = false) := by
            show decide (o.n ≤ lastN os) = false
            rw [hos]
            exact decide_eq_false (show ¬ o.n ≤ 0 by omega)
          have hl0 : decide (0 < os.length) = false := by rw [hos]; rfl
          have hl1 : ¬ 0 < os.length := by simpa using hl0
          have hl2 : ¬ (0 : Int) < (os.length : Int) := by omega
          clear hos
          go_quiet (fail)
          go_wp2
          go_meet
          case rel => exact ⟨by rw [Hd.out], _, rfl⟩
        · have hpos : 0 < os.length := List.length_pos_iff.2 hos
          obtain ⟨g3, cp3, hg3, _⟩ := Hown3.out.form hpos
          injection hg3 with e1 e2 e3
          subst e1
          subst e3
          have hi1 : os.length - 1 < os.length := by omega
          obtain ⟨b', off', hA', hbl2, z0, zz⟩ := lies_ord (Hl3.out.below Hb3.out) (os.length - 1) hi1 hi1
          injection hA' with hA'
          injection hA' with e1 e2
          subst e1
          subst e2
          have Hlast : Hid (lastN os = os[os.length - 1].n) := by
            show lastN os = os[os.length - 1].n
            unfold lastN
            rw [List.getLast?_eq_getElem?, List.getElem?_eq_getElem hi1]
          rw [← Hlast.out, Nat.zero_add] at z0
          have hlen0 : (0 : Int) ≤ (os.length : Int) - 1 := by omega
          have hlen1 : (os.length : Int) - 1 < (os.length : Int) := by omega
          clear zz Hlast hi1 hos
          by_cases hln : o.n ≤ lastN os
          all_goals
            go_quiet (fail)
            go_wp2
            go_meet
            case rel => exact ⟨by first | (simp [hln]; done) | (simp; omega), _, rfl⟩
      case rest =>
        obtain ⟨rfl, kd, rfl⟩ := hcut
        by_cases hln : o.n ≤ lastN os
        · have hlnB : decide (o.n ≤ lastN os) = true := by simp [hln]
          have Hend2 := Lib.hid (Hend.out 71 (w3.drewN kd) (below_drewN Hb3.out kd) (by decide) (by rw [Hwb2.out, if_pos hln]))
          go_wp2
          refine bodyPost_ret (v := .tuple #[.agg #[.slice A n c, .slice B m d], .int .i64 71]) (by simp [results, Try.results31, go_sem, *]) rfl ?_
          exact Hend2.out
        · have hlnB : decide (o.n ≤ lastN os) = false := by simp; omega
          have Hln := Lib.hid hln
          have hln' : lastN os < o.n := by omega
          clear hln
          by_cases hfull : 200 ≤ os.length
          · have Hend2 := Lib.hid (Hend.out 73 (w3.drewN kd) (below_drewN Hb3.out kd) (by decide) (by rw [Hwb2.out, if_neg (show ¬ o.n ≤ lastN os by have := Hln.out; omega), if_pos hfull]))
            go_wp2
            refine bodyPost_ret (v := .tuple #[.agg #[.slice A n c, .slice B m d], .int .i64 73]) (by simp [results, Try.results31, go_sem, *]) rfl ?_
            exact Hend2.out
          · have hfull' : ¬ (200 : Int) ≤ (os.length : Int) := by omega
            go_wp2
            have Hwb3 : Hid (wb = (ys ++ recB o, 0)) := by
              show wb = _
              rw [Hwb2.out, if_neg (show ¬ o.n ≤ lastN os by have := Hln.out; omega), if_neg hfull]
            have Hv4 : Hid (RVars (w3.drewN kd) w.heap.size A n c B m d o) := Hv3.out.below (below_drewN (Below.refl w3.heap.size w3) kd) hs3
            have Hb4 := Lib.hid (below_drewN Hb3.out kd)
            have HR4 : Hid (Sl8 (w3.drewN kd) R (recB o).length rc (recB o)) := HR.out.below (below_drewN (Below.refl w3.heap.size w3) kd)
            generalize w3.drewN kd = w4 at *
            obtain ⟨⟨o0, o1, o2, o3⟩, ⟨r0, r1, f0, f1⟩, t0, t1⟩ := Hv4.out.facts
            have hs4 : w.heap.size + 1 + 1 < w4.heap.size := Hv4.out.lt
            have hyl : ys.length ≤ 90000 := by rw [HB.out.len]; omega
            have hr28 : (recB o).length ≤ 28 := Nat.le_of_eq (recB_len o)
            have HAr : Hid (Reads w4 w4.heap.size 1 A n (xs.map (.int .u8))) := (HA2.out.below Hb4.out).lies.reads (by simp [HA.out.len])
            have HBr : Hid (Reads w4 w4.heap.size 1 B m (ys.map (.int .u8))) := (HB2.out.below Hb4.out).lies.reads (by simp [HB.out.len])
            have HRr : Hid (Reads w4 w4.heap.size 1 R (recB o).length ((recB o).map (.int .u8))) := HR4.out.lies.reads (by simp)
            clear r0' r1' f0' f1' o0' o1' o2' o3' t0' t1'
            go_region_held3 (fun w' => w'.cell? ⟨w.heap.size, 0, none⟩ = some (.slice A n c) ∧ w'.cell? ⟨w.heap.size, 1, none⟩ = some (.slice B m d))
              (first | go_keep | ((repeat' apply And.intro) <;> go_keep) | ((repeat' apply And.intro) <;> (rw [World.cell?_setCell_far _ _ _ _ (by simp; omega), World.cell?_setCell_far _ _ _ _ (by simp; omega)]; go_keep)) | (exact ⟨(World.cell?_of_block (a := ⟨w.heap.size, 0, none⟩) ((Below.heap_setCell _ _ _ _ (by simp; omega)).trans (Below.heap_setCell _ _ _ _ (by simp; omega)))).trans t0r, (World.cell?_of_block (a := ⟨w.heap.size, 1, none⟩) ((Below.heap_setCell _ _ _ _ (by simp; omega)).trans (Below.heap_setCell _ _ _ _ (by simp; omega)))).trans t1r⟩))
              (first
                | (refine step_append_any _ rfl (.tmp 52) (.tmp 53) 26 rfl w4.heap.size 5 i0 (.int .u8 0) 1 1 Try.underlying26 hi hz0 hz1 hz2 rfl (by omega) v2 m (ys.map (.int .u8)) rfl (by exact Hown2.out) w4.heap.size R (recB o).length rc ((recB o).map (.int .u8)) rfl (HRr.out.below (by exact Hb2.out)) (ints_oneCell .u8 _) (by unfold maxLen; omega) (by omega) (by exact hs2') ?_
                   intro v3 w7 hown7 hg7 hat7
                   have hown7' : w7.ownsRow w4.heap.size 5 1 v3 (ys ++ recB o).length ((ys ++ recB o).map (.int .u8)) := (by
                     rw [List.length_append, HB.out.len, List.map_append]
                     exact hown7)
                   obtain ⟨E, ec, rfl, hE, hEb⟩ := Sl8.of_own' hown7' rfl (HB.out.byt.app (recB_bytes o))
                   have HEb := Lib.hid hEb
                   have HE := Lib.hid hE
                   have Hb7 : Hid (Below w4.heap.size w4 w7) := Below.grown Hb2.out hg7 hs2' (fun k hk => (Hown2.out.lt k hk).1)
                   have Hg7 := Lib.hid hg7
                   have Hv7 : Hid (RVars w7 w.heap.size A n c B m d o) := Hv4.out.below Hb7.out hs4
                   obtain ⟨⟨o0r, o1r, o2r, o3r⟩, ⟨r0r, r1r, f0r, f1r⟩, t0r, t1r⟩ := Hv7.out.facts
                   clear hown7 hown7' hE hg7 hEb)
                | (refine step_append_any _ rfl (.const (.slice none 0 0)) (.tmp 51) 26 rfl w4.heap.size 5 i0 (.int .u8 0) 1 1 Try.underlying26 hi hz0 hz1 hz2 rfl (by omega) (.slice none 0 0) 0 [] rfl (World.ownsRow_nil _ _ _ _) w4.heap.size B m d (ys.map (.int .u8)) rfl (HBr.out.below (by exact Hb1.out)) (ints_oneCell .u8 _) (by unfold maxLen; omega) (by omega) (by exact hs1') ?_
                   intro v2 w6 hown6 hg6 hat6
                   simp only [Nat.zero_add, List.nil_append] at hown6
                   have Hown2 := Lib.hid hown6
                   have Hb2 : Hid (Below w4.heap.size w4 w6) := Below.grown Hb1.out hg6 hs1' (fun k hk => by simp [Value.ownBlock] at hk)
                   have hs2' : w4.heap.size ≤ w6.heap.size := Hb2.out.size
                   have Hg6 := Lib.hid hg6
                   have hat2 : v2.ownBlock = none ∨ v2.ownBlock = some w5.heap.size := (by simpa [Value.ownBlock] using hat6)
                   have Hv6 : Hid (RVars w6 w.heap.size A n c B m d o) := Hv4.out.below Hb2.out hs4
                   obtain ⟨⟨o0q, o1q, o2q, o3q⟩, ⟨r0q, r1q, f0q, f1q⟩, t0q, t1q⟩ := Hv6.out.facts
                   clear hown6 hg6 hat6)
                | (refine step_append_any _ rfl (.const (.slice none 0 0)) (.tmp 48) 26 rfl w4.heap.size 5 i0 (.int .u8 0) 1 1 Try.underlying26 hi hz0 hz1 hz2 rfl (by omega) (.slice none 0 0) 0 [] rfl (World.ownsRow_nil _ _ _ _) w4.heap.size A n c (xs.map (.int .u8)) rfl (HAr.out.below (Below.drew (Below.refl _ _))) (ints_oneCell .u8 _) (by unfold maxLen; omega) (by omega) (by first | exact Nat.le_refl _ | (simp; done)) ?_
                   intro v1 w5 hown5 hg5 hat5
                   simp only [Nat.zero_add, List.nil_append] at hown5
                   obtain ⟨S5, sc, rfl, hS, hSb⟩ := Sl8.of_own' hown5 HA.out.len HA.out.byt
                   have HSb := Lib.hid hSb
                   have HS := Lib.hid hS
                   have Hb1 : Hid (Below w4.heap.size w4 w5) := Below.grown (Below.drew (Below.refl _ _)) hg5 (by first | exact Nat.le_refl _ | (simp; done)) (fun k hk => by simp [Value.ownBlock] at hk)
                   have hs1' : w4.heap.size ≤ w5.heap.size := Hb1.out.size
                   have Hlt5 : Hid (∀ k, (Value.slice S5 n sc).ownBlock = some k → k < w5.heap.size) := fun k hk => (hown5.lt k hk).2
                   have Hv5 : Hid (RVars w5 w.heap.size A n c B m d o) := Hv4.out.below Hb1.out hs4
                   obtain ⟨⟨o0p, o1p, o2p, o3p⟩, ⟨r0p, r1p, f0p, f1p⟩, t0p, t1p⟩ := Hv5.out.facts
                   clear hown5 hg5 hS hSb)
                | fail)
            all_goals
              go_wp2
              refine bodyPost_ret (v := .tuple #[.agg #[.slice S5 n sc, .slice E (ys ++ recB o).length ec], .int .i64 0]) (by simp [results, Try.results31, go_sem, *]) rfl ?_
              rw [Hwb3.out]
              have hbw2 := Hbw2.out
              have hs20 := hbw2.size
              have hb4 := Hb4.out
              have hs40 := hb4.size
              have hb7 := Hb7.out
              have hS7 : Sl8 w7 S5 n sc xs := (HS.out.grown Hg6.out (fun ad h => by simp [Value.ownBlock])).grown Hg7.out (fun ad h e => by
                have h1 := Hlt5.out ad.block (by rw [h]; rfl)
                rcases hat2 with h2 | h2
                · rw [h2] at e; cases e
                · rw [h2] at e; injection e; omega)
              refine ⟨_, _, _, _, _, _, rfl, hS7.box Hv7.out.res _ _, ?_, ?_, fun _ => ⟨fun ad h => by have := HSb.out ad h; omega, fun ad h => by have := HEb.out ad h; omega⟩⟩
              · have h2 := HE.out.box Hv7.out.res (.slice S5 n sc) (.slice E (ys ++ recB o).length ec)
                simpa using h2
              · exact (((hbw2.trans (hb4.mono (by omega))).trans (hb7.mono (by omega))).setCell (by simp; omega) _).setCell (by simp; omega) _
end Go.Proofs.Ytbkfdpdcnjecbaa
