/- Contract: Border (outline). -/
import Derived.Test.YtpcfhcdbibklcaaGreatBf
namespace Go.Proofs.YtpcfhcdbibklcaaGreat
open Go.RowKit
set_option linter.unusedVariables false
set_option linter.unusedSimpArgs false

/-- What Border returns. -/
def bordV (l : List R4) : Int × Int := if validP l then (bordP l, 0) else (0, 7)
theorem len1_bd {n : Int} {e : R4} (h : inB4 n e) : 0 ≤ len1 e ∧ len1 e ≤ 2 * n := by
  unfold inB4 at h
  unfold len1
  omega
theorem sumL_bd {l : List R4} {n : Int} (h : ∀ e ∈ l, inB4 n e) : 0 ≤ sumL len1 l ∧ sumL len1 l ≤ l.length * (2 * n) := by
  induction l with
  | nil => simp [sumL]
  | cons a t ih =>
    have h1 := ih fun e he => h e (by simp [he])
    have h2 := len1_bd (h a (by simp))
    rw [sumL_cons, List.length_cons, show ((t.length + 1 : Nat) : Int) = (t.length : Int) + 1 from by omega, Int.add_mul]
    omega
theorem sumL_take_succ {α : Type} (g : α → Int) (l : List α) (k : Nat) (h : k < l.length) : sumL g (l.take (k + 1)) = sumL g (l.take k) + g l[k] := by
  rw [List.take_succ_eq_append_getElem h, sumL_app, sumL_cons, sumL_nil]
  omega
theorem take_in {l : List R4} {n : Int} (h : ∀ e ∈ l, inB4 n e) (k : Nat) : ∀ e ∈ l.take k, inB4 n e := fun e he => h e (List.mem_of_mem_take he)

set_option maxHeartbeats 8000000 in
set_option maxRecDepth 100000 in
theorem bordO_any (A : Option Addr) (n c : Nat) (l : List R4) (w : World) (hA : SlR w A n c l) :
    Calls Tryz.prog 11 #[.agg #[.slice A n c]] w fun e w' => e = .returned (.tuple #[.int .i64 (bordV l).1, .int .i64 (bordV l).2]) ∧ Below w.heap.size w w' := by
  have hnl := hA.len
  have HA := Lib.hid hA
  have HV := Lib.hid (fun W (hW : SlR W A n c l) => valid_any A n c l W hW)
  cases hv : validP l with
  | false =>
    rw [hv] at HV
    have Hb : Hid (bordV l = (0, 7)) := Lib.hid (by unfold bordV; rw [hv]; rfl)
    generalize bordV l = res at *
    clear hA hv
    go_enter Tryz.func11, Tryz.ntmps11
    go_wp2_with (first
      | (go_at_call 32
         refine (HV.out _ (HA.out.below (by repeat' (first | with_reducible exact Below.refl _ _ | with_reducible refine below_drewN ?_ _ | with_reducible refine Below.drew ?_ | with_reducible refine Below.alloc ?_ ?_ _ | with_reducible refine Below.setCell ?_ ?_ _ | with_reducible refine Below.trans ?_ (Below.mono (by with_reducible assumption) ?_) | (simp; done) | (simp; omega) | omega)))).mono ?_
         rintro e w1 ⟨rfl, hb1⟩
         have Hb1 := Lib.hid hb1
         clear hb1)
      | fail)
    refine bodyPost_ret (v := .tuple #[.int .i64 0, .int .i64 7]) (by simp [results, Tryz.results11, go_sem, *]) rfl ?_
    rw [Hb.out]
    exact ⟨rfl, by have hbq := Hb1.out; exact (by repeat' (first | with_reducible exact Below.refl _ _ | with_reducible assumption | with_reducible refine below_drewN ?_ _ | with_reducible refine Below.drew ?_ | with_reducible refine Below.alloc ?_ ?_ _ | with_reducible refine Below.setCell ?_ ?_ _ | with_reducible refine Below.trans ?_ (Below.mono (by with_reducible assumption) ?_) | with_reducible refine below_only ?_ (by with_reducible assumption) ?_ ?_ | (simp; done) | (simp; omega) | omega))⟩
  | true =>
    rw [hv] at HV
    have Hb : Hid (bordV l = (bordP l, 0)) := Lib.hid (by unfold bordV; rw [hv]; rfl)
    obtain ⟨hl120, hok, _⟩ := valid_parts hv
    have HE := Lib.hid (fun W (hW : SlR W A n c l) => edgesO_any A n c l W hW hok (by omega))
    have Hel : Hid ((edgesP l).length ≤ 110649600) := Lib.hid (edgesP_len l hl120)
    have Hei : Hid (∀ e ∈ edgesP l, inB4 16384 e) := Lib.hid (edgesP_in l 16384 (by omega) (ok_in hok))
    have Hbp : Hid (bordP l = sumL len1 (edgesP l)) := Lib.hid rfl
    generalize bordV l = res at *
    generalize bordP l = bp at *
    generalize edgesP l = es at *
    clear hA hv hok
    go_enter Tryz.func11, Tryz.ntmps11
    go_upto_region 3 with (first
      | (go_at_call 32
         refine (HV.out _ (HA.out.below (by repeat' (first | with_reducible exact Below.refl _ _ | with_reducible refine below_drewN ?_ _ | with_reducible refine Below.drew ?_ | with_reducible refine Below.alloc ?_ ?_ _ | with_reducible refine Below.setCell ?_ ?_ _ | with_reducible refine Below.trans ?_ (Below.mono (by with_reducible assumption) ?_) | (simp; done) | (simp; omega) | omega)))).mono ?_
         rintro e w1 ⟨rfl, hb1⟩
         have Hb1 : Hid (Below w.heap.size w w1) := Lib.hid (by have hbq := hb1; exact (by repeat' (first | with_reducible exact Below.refl _ _ | with_reducible assumption | with_reducible refine below_drewN ?_ _ | with_reducible refine Below.drew ?_ | with_reducible refine Below.alloc ?_ ?_ _ | with_reducible refine Below.setCell ?_ ?_ _ | with_reducible refine Below.trans ?_ (Below.mono (by with_reducible assumption) ?_) | with_reducible refine below_only ?_ (by with_reducible assumption) ?_ ?_ | (simp; done) | (simp; omega) | omega)))
         have hr1 : w1.heap[w.heap.size]? = some (.cells #[.slice A n c] 25 (0, 0)) := (hb1.block _ (by simp)).trans (heap_alloc_new w _)
         have c1 := cell_of_row w1 w.heap.size 0 _ _ _ hr1
         have hs1 := Hb1.out.size
         clear hb1 hr1)
      | fail)
    have HA1 := Lib.hid (HA.out.below Hb1.out)
    go_upto_region 5 with (first
      | (go_at_call 33
         refine (HE.out _ HA1.out).mono ?_
         rintro e w2 ⟨v2, rfl, hown2, hb2⟩
         obtain ⟨E, ec, rfl, hEl, hEc, hEm⟩ := own_slice hown2
         have HEl := Lib.hid hEl
         have Hb2 : Hid (Below w.heap.size w w2) := Lib.hid (Hb1.out.trans (hb2.mono hs1))
         clear hown2 hb2 hEl)
      | fail)
    have hs2 := Hb2.out.size
    go_loopw [4, 6, 13] (fun s _ i wr => ∃ j : Nat, j ≤ es.length ∧ i = .int .i64 (j : Int) ∧ s = .int .i64 (sumL len1 (es.take j)) ∧ Below w2.heap.size w2 wr) (fun _ _ i _ => es.length - (intOf i).toNat)
    case atStart => exact ⟨0, Nat.zero_le _, rfl, rfl, Below.refl _ _⟩
    case round =>
      obtain ⟨j, hj, rfl, rfl, hbr⟩ := hrel
      have hsr := hbr.size
      have Hbr := Lib.hid hbr
      by_cases hjn : j < es.length
      · obtain ⟨b, off, hEe, hb, c0, c1', c2, c3⟩ := lies_r (HEl.out.below hbr) j hjn hjn
        subst hEe
        have Hst := Lib.hid (sumL_take_succ len1 es j hjn)
        have hsb := sumL_bd (take_in Hei.out j)
        have hel := Hel.out
        have hei := Hei.out es[j] (List.getElem_mem hjn)
        have hlb := len1_bd hei
        rw [List.length_take] at hsb
        have hsb2 : 0 ≤ sumL len1 (es.take j) ∧ sumL len1 (es.take j) ≤ 4000000000000 := by
          have h1 : ((min j es.length : Nat) : Int) ≤ 110649600 := by omega
          have h2 : ((min j es.length : Nat) : Int) * (2 * 16384) ≤ 110649600 * (2 * 16384) := Int.mul_le_mul_of_nonneg_right h1 (by omega)
          omega
        have hld : len1 es[j] = max (es[j].r - es[j].l) (es[j].l - es[j].r) + max (es[j].t - es[j].b) (es[j].b - es[j].t) := rfl
        unfold inB4 at hei
        generalize es[j] = q at *
        generalize sumL len1 (es.take j) = sm at *
        generalize len1 q = lq at *
        have hjn' : (j : Int) < (es.length : Int) := by omega
        have w1' : IntKind.i64.wrap (q.r - q.l) = q.r - q.l := IntWalk.i64_in _ (by omega)
        have w2' : IntKind.i64.wrap (q.l - q.r) = q.l - q.r := IntWalk.i64_in _ (by omega)
        have w3' : IntKind.i64.wrap (q.t - q.b) = q.t - q.b := IntWalk.i64_in _ (by omega)
        have w4' : IntKind.i64.wrap (q.b - q.t) = q.b - q.t := IntWalk.i64_in _ (by omega)
        have w5' : IntKind.i64.wrap (max (q.r - q.l) (q.l - q.r) + max (q.t - q.b) (q.b - q.t)) = lq := by rw [← hld]; exact IntWalk.i64_in _ (by omega)
        have w6' : IntKind.i64.wrap (sm + lq) = sm + lq := IntWalk.i64_in _ (by omega)
        clear hbr hsb hlb hld hei
        go_wp2
        go_roundw
        case rel => exact ⟨j + 1, by omega, by go_num, by rw [Hst.out], Hbr.out.alloc hsr _⟩
        case measure => simp [intOf]; omega
      · have Hfin : Hid (sumL len1 (es.take j) = bp) := Lib.hid (by rw [List.take_of_length_le (by omega), Hbp.out])
        generalize sumL len1 (es.take j) = sm at *
        have hjn' : ¬ (j : Int) < (es.length : Int) := by omega
        clear hbr
        go_wp2
        refine bodyPost_ret (v := .tuple #[.int .i64 sm, .int .i64 0]) (by simp [results, Tryz.results11, go_sem, *]) rfl ?_
        rw [Hb.out, Hfin.out]
        exact ⟨rfl, Hb2.out.trans (Hbr.out.mono hs2)⟩
end Go.Proofs.YtpcfhcdbibklcaaGreat
