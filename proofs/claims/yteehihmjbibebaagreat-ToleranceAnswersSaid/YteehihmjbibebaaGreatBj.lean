/- Contract: Border (the reference of outlines). -/
import Derived.Test.YteehihmjbibebaaGreatBi
import Derived.Test.YteehihmjbibebaaGreatBg
import Derived.Test.YteehihmjbibebaaGreatV2
namespace Go.Proofs.YteehihmjbibebaaGreat
open Go.RowKit
set_option linter.unusedVariables false
set_option linter.unusedSimpArgs false

theorem edgesR_len (l : List R4) (hl : l.length ≤ 120) : (edgesR l).length ≤ 230400 := by
  have hxs : (xsR l).length ≤ 240 := by have := xsOf_len l; show (xsOf l).length ≤ 240; omega
  have hys : (ysR l).length ≤ 240 := by have := ysOf_len l; show (ysOf l).length ≤ 240; omega
  have h1 := rowsE_len l (xsR l) (ysR l) ((ysR l).length - 1)
  have h2 : ((ysR l).length - 1) * (4 * ((xsR l).length - 1)) ≤ 240 * (4 * 240) := Nat.mul_le_mul (by omega) (by omega)
  exact Nat.le_trans h1 h2
theorem edgesR_in (l : List R4) (n : Nat) (hl : InS n l) : ∀ e ∈ edgesR l, inB4 n e := by
  have h := lines_of hl
  intro e he
  obtain ⟨k, hk, he⟩ := List.mem_flatMap.1 he
  obtain ⟨i, hi, he⟩ := List.mem_flatMap.1 he
  rw [List.mem_range] at hk hi
  have b1 := h.bx _ (mem_getD (ys := xsR l) (k := i) (by omega))
  have b2 := h.bx _ (mem_getD (ys := xsR l) (k := i + 1) (by omega))
  have b3 := h.by_ _ (mem_getD (ys := ysR l) (k := k) (by omega))
  have b4 := h.by_ _ (mem_getD (ys := ysR l) (k := k + 1) (by omega))
  unfold cellR at he
  generalize (xsR l).getD i 0 = x at *
  generalize (xsR l).getD (i + 1) 0 = x' at *
  generalize (ysR l).getD k 0 = y at *
  generalize (ysR l).getD (k + 1) 0 = y' at *
  have one : ∀ (b : Bool) (q : R4), e ∈ (if b then [] else [q]) → e = q := fun b q hq => by cases b <;> simp at hq; exact hq
  split at he
  · rw [List.mem_append, List.mem_append, List.mem_append] at he
    unfold inB4
    rcases he with ((he | he) | he) | he
    all_goals
      rw [one _ _ he]
      simp only
      omega
  · cases he
set_option maxHeartbeats 8000000 in
set_option maxRecDepth 100000 in
theorem bord5_any (A : Option Addr) (n c : Nat) (l : List R4) (w : World) (hA : SlR w A n c l) :
    Calls Tryz.prog 27 #[.agg #[.slice A n c]] w fun e w' => e = .returned (.tuple #[.int .i64 (bordV l).1, .int .i64 (bordV l).2]) ∧ Below w.heap.size w w' := by
  have hnl := hA.len
  have HA := Lib.hid hA
  have HV := Lib.hid (fun W (hW : SlR W A n c l) => validR_any A n c l W hW)
  cases hv : validP l with
  | false =>
    rw [hv] at HV
    have Hb : Hid (bordV l = (0, 7)) := Lib.hid (by unfold bordV; rw [hv]; rfl)
    generalize bordV l = res at *
    clear hA hv
    go_enter Tryz.func27, Tryz.ntmps27
    go_wp2_with (first
      | (go_at_call 36
         refine (HV.out _ (HA.out.below (by repeat' (first | with_reducible exact Below.refl _ _ | with_reducible refine below_drewN ?_ _ | with_reducible refine Below.drew ?_ | with_reducible refine Below.alloc ?_ ?_ _ | with_reducible refine Below.setCell ?_ ?_ _ | with_reducible refine Below.trans ?_ (Below.mono (by with_reducible assumption) ?_) | (simp; done) | (simp; omega) | omega)))).mono ?_
         rintro e w1 ⟨rfl, hb1⟩
         have Hb1 := Lib.hid hb1
         clear hb1)
      | fail)
    refine bodyPost_ret (v := .tuple #[.int .i64 0, .int .i64 7]) (by simp [results, Tryz.results27, go_sem, *]) rfl ?_
    rw [Hb.out]
    exact ⟨rfl, by have hbq := Hb1.out; exact (by repeat' (first | with_reducible exact Below.refl _ _ | with_reducible assumption | with_reducible refine below_drewN ?_ _ | with_reducible refine Below.drew ?_ | with_reducible refine Below.alloc ?_ ?_ _ | with_reducible refine Below.setCell ?_ ?_ _ | with_reducible refine Below.trans ?_ (Below.mono (by with_reducible assumption) ?_) | with_reducible refine below_only ?_ (by with_reducible assumption) ?_ ?_ | (simp; done) | (simp; omega) | omega))⟩
  | true =>
    rw [hv] at HV
    have Hb : Hid (bordV l = (bordP l, 0)) := Lib.hid (by unfold bordV; rw [hv]; rfl)
    obtain ⟨hl120, hok, _⟩ := valid_parts hv
    have HE := Lib.hid (fun W (hW : SlR W A n c l) => edges5_any A n c l W hW (by omega))
    have Hel : Hid ((edgesR l).length ≤ 230400) := Lib.hid (edgesR_len l hl120)
    have Hei : Hid (∀ e ∈ edgesR l, inB4 16384 e) := Lib.hid (edgesR_in l 16384 (ok_in hok))
    have Hbp : Hid (bordP l = sumL len1 (edgesR l)) := Lib.hid ((bordP_true l 16384 (by omega) (ok_in hok)).trans (bordR_true l 16384 (ok_in hok)).symm)
    generalize bordV l = res at *
    generalize bordP l = bp at *
    generalize edgesR l = es at *
    clear hA hv hok
    go_enter Tryz.func27, Tryz.ntmps27
    go_upto_region 3 with (first
      | (go_at_call 36
         refine (HV.out _ (HA.out.below (by repeat' (first | with_reducible exact Below.refl _ _ | with_reducible refine below_drewN ?_ _ | with_reducible refine Below.drew ?_ | with_reducible refine Below.alloc ?_ ?_ _ | with_reducible refine Below.setCell ?_ ?_ _ | with_reducible refine Below.trans ?_ (Below.mono (by with_reducible assumption) ?_) | (simp; done) | (simp; omega) | omega)))).mono ?_
         rintro e w1 ⟨rfl, hb1⟩
         have Hb1 : Hid (Below w.heap.size w w1) := Lib.hid (by have hbq := hb1; exact (by repeat' (first | with_reducible exact Below.refl _ _ | with_reducible assumption | with_reducible refine below_drewN ?_ _ | with_reducible refine Below.drew ?_ | with_reducible refine Below.alloc ?_ ?_ _ | with_reducible refine Below.setCell ?_ ?_ _ | with_reducible refine Below.trans ?_ (Below.mono (by with_reducible assumption) ?_) | with_reducible refine below_only ?_ (by with_reducible assumption) ?_ ?_ | (simp; done) | (simp; omega) | omega)))
         have hr1 : w1.heap[w.heap.size]? = some (.cells #[.slice A n c] 27 (0, 0)) := (hb1.block _ (by simp)).trans (heap_alloc_new w _)
         have c1 := cell_of_row w1 w.heap.size 0 _ _ _ hr1
         have hs1 := Hb1.out.size
         clear hb1 hr1)
      | fail)
    have HA1 := Lib.hid (HA.out.below Hb1.out)
    go_upto_region 5 with (first
      | (go_at_call 37
         refine (HE.out _ HA1.out).mono ?_
         rintro e w2 ⟨v2, rfl, hown2, hb2⟩
         obtain ⟨E, ec, rfl, hEl, hEc, hEm⟩ := own_slice hown2
         have HEl := Lib.hid hEl
         have Hb2 : Hid (Below w.heap.size w w2) := Lib.hid (Hb1.out.trans (hb2.mono hs1))
         clear hown2 hb2 hEl)
      | fail)
    have hs2 := Hb2.out.size
    go_loopw [4, 6, 13] (fun s _ i wr => ∃ j : Nat, j ≤ es.length ∧ i = .int .i64 (j : Int) ∧ s = .int .i64 (sumL len1 (es.take j)) ∧ Below w2.heap.size w2 wr) (fun _ _ i _ => es.length - (intOf i).toNat)
    case atStart => exact ⟨0, Nat.zero_le _, rfl, rfl, Below.refl _ _⟩
    case round =>
      obtain ⟨j, hj, rfl, rfl, hbr⟩ := hrel
      have hsr := hbr.size
      have Hbr := Lib.hid hbr
      by_cases hjn : j < es.length
      · obtain ⟨b, off, hEe, hb, c0, c1', c2, c3⟩ := lies_r (HEl.out.below hbr) j hjn hjn
        subst hEe
        have Hst := Lib.hid (sumL_take_succ len1 es j hjn)
        have hsb := sumL_bd (take_in Hei.out j)
        have hel := Hel.out
        have hei := Hei.out es[j] (List.getElem_mem hjn)
        have hlb := len1_bd hei
        rw [List.length_take] at hsb
        have hsb2 : 0 ≤ sumL len1 (es.take j) ∧ sumL len1 (es.take j) ≤ 4000000000000 := by
          have h1 : ((min j es.length : Nat) : Int) ≤ 230400 := by omega
          have h2 : ((min j es.length : Nat) : Int) * (2 * 16384) ≤ 230400 * (2 * 16384) := Int.mul_le_mul_of_nonneg_right h1 (by omega)
          omega
        have hld : len1 es[j] = max (es[j].r - es[j].l) (es[j].l - es[j].r) + max (es[j].t - es[j].b) (es[j].b - es[j].t) := rfl
        unfold inB4 at hei
        generalize es[j] = q at *
        generalize sumL len1 (es.take j) = sm at *
        generalize len1 q = lq at *
        have hjn' : (j : Int) < (es.length : Int) := by omega
        have w1' : IntKind.i64.wrap (q.r - q.l) = q.r - q.l := IntWalk.i64_in _ (by omega)
        have w2' : IntKind.i64.wrap (q.l - q.r) = q.l - q.r := IntWalk.i64_in _ (by omega)
        have w3' : IntKind.i64.wrap (q.t - q.b) = q.t - q.b := IntWalk.i64_in _ (by omega)
        have w4' : IntKind.i64.wrap (q.b - q.t) = q.b - q.t := IntWalk.i64_in _ (by omega)
        have w5' : IntKind.i64.wrap (max (q.r - q.l) (q.l - q.r) + max (q.t - q.b) (q.b - q.t)) = lq := by rw [← hld]; exact IntWalk.i64_in _ (by omega)
        have w6' : IntKind.i64.wrap (sm + lq) = sm + lq := IntWalk.i64_in _ (by omega)
        clear hbr hsb hlb hld hei
        go_wp2
        go_roundw
        case rel => exact ⟨j + 1, by omega, by go_num, by rw [Hst.out], Hbr.out.alloc hsr _⟩
        case measure => simp [intOf]; omega
      · have Hfin : Hid (sumL len1 (es.take j) = bp) := Lib.hid (by rw [List.take_of_length_le (by omega), Hbp.out])
        generalize sumL len1 (es.take j) = sm at *
        have hjn' : ¬ (j : Int) < (es.length : Int) := by omega
        clear hbr
        go_wp2
        refine bodyPost_ret (v := .tuple #[.int .i64 sm, .int .i64 0]) (by simp [results, Tryz.results27, go_sem, *]) rfl ?_
        rw [Hb.out, Hfin.out]
        exact ⟨rfl, Hb2.out.trans (Hbr.out.mono hs2)⟩
end Go.Proofs.YteehihmjbibebaaGreat
