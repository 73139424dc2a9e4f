/- Contract: the law's inside; RegionSquares as equations (regions). -/
import Derived.Test.YtmkopmcjilaedaaU5
namespace Go.Proofs.Ytmkopmcjilaedaa
open Go.RowKit
set_option linter.unusedVariables false
set_option linter.unusedSimpArgs false

set_option maxHeartbeats 4000000 in
set_option maxRecDepth 100000 in
theorem insideL_any (A : Option Addr) (n c : Nat) (l : List R4) (x y : Int) (w : World) (h : SlR w A n c l) :
    Calls Try.prog 16 #[.agg #[.slice A n c], .int .i64 x, .int .i64 y] w fun e w' => e = .returned (.bool (inL l x y)) ∧ Below w.heap.size w w' := by
  have hn := h.len
  have hc := h.cap
  have hm := h.top
  unfold maxLen at hm
  have H := Lib.hid h
  clear h
  go_enter Try.func16, Try.ntmps16
  go_wp2
  go_loopw [8, 12] (fun _ i wr => ∃ k : Nat, k ≤ n ∧ i = .int .i64 (k : Int) ∧ Hid (inL (l.take k) x y = false) ∧ Below w.heap.size w wr) (fun _ i _ => n - (intOf i).toNat)
  case atStart => exact ⟨0, Nat.zero_le _, rfl, Lib.hid rfl, (by repeat' (first | with_reducible exact Below.refl _ _ | with_reducible refine below_drewN ?_ _ | with_reducible refine Below.drew ?_ | with_reducible refine Below.alloc ?_ ?_ _ | with_reducible refine Below.setCell ?_ ?_ _ | with_reducible refine Below.trans ?_ (Below.mono (by with_reducible assumption) ?_) | (simp; done) | (simp; omega) | omega))⟩
  case round =>
    obtain ⟨k, hk, rfl, hf, hbw⟩ := hrel
    have hsz := hbw.size
    by_cases hkn : k < n
    · have hl : k < l.length := by omega
      obtain ⟨b, off, rfl, hbl, c0, c1, c2, c3⟩ := (H.out.below hbw).at k hl
      have Hs := Lib.hid (inL_take_succ l k hl x y)
      have Hin : Hid (l[k].has x y = true → inL l x y = true) := fun h => by
        unfold inL
        rw [List.any_eq_true]
        exact ⟨l[k], List.getElem_mem hl, h⟩
      have Hh : Hid (l[k].has x y = (decide (l[k].l ≤ x) && decide (x < l[k].r) && decide (l[k].b ≤ y) && decide (y < l[k].t))) := Lib.hid rfl
      generalize l[k] = q at *
      generalize q.has x y = hv at *
      go_wp2
      all_goals first
        | (go_roundw
           case rel => exact ⟨k + 1, by omega, by go_num, (by show inL (l.take (k + 1)) x y = false; rw [Hs.out, hf.out, Hh.out]; simp; omega), (by repeat' (first | with_reducible exact Below.refl _ _ | with_reducible assumption | with_reducible refine below_drewN ?_ _ | with_reducible refine Below.drew ?_ | with_reducible refine Below.alloc ?_ ?_ _ | with_reducible refine Below.setCell ?_ ?_ _ | with_reducible refine Below.trans ?_ (Below.mono (by with_reducible assumption) ?_) | with_reducible refine below_only ?_ (by with_reducible assumption) ?_ ?_ | (simp; done) | (simp; omega) | omega))⟩
           case measure => simp [intOf]; omega)
        | (go_ret
           exact ⟨by rw [Hin.out (by rw [Hh.out]; simp; omega)]; rfl, (by repeat' (first | with_reducible exact Below.refl _ _ | with_reducible assumption | with_reducible refine below_drewN ?_ _ | with_reducible refine Below.drew ?_ | with_reducible refine Below.alloc ?_ ?_ _ | with_reducible refine Below.setCell ?_ ?_ _ | with_reducible refine Below.trans ?_ (Below.mono (by with_reducible assumption) ?_) | with_reducible refine below_only ?_ (by with_reducible assumption) ?_ ?_ | (simp; done) | (simp; omega) | omega))⟩)
    · have e1 : Hid (inL l x y = false) := by
        have := hf.out
        rw [List.take_of_length_le (by omega)] at this
        exact this
      go_wp2
      go_ret
      exact ⟨by rw [e1.out]; rfl, hbw⟩


/-- How many squares were counted: all of k columns, and j of the next one. -/
def cntP (a : List R4) (k j : Nat) : Int := sumI (fun x => sumI (fun y => ind (inL a x y)) 0 8) 0 k + sumI (fun y => ind (inL a k y)) 0 j
theorem cnt_succ (a : List R4) (k j : Nat) : cntP a k (j + 1) = cntP a k j + ind (inL a k j) := by
  unfold cntP
  rw [sumI_snoc, Int.zero_add]
  omega
theorem cnt_next (a : List R4) (k : Nat) : cntP a (k + 1) 0 = cntP a k 8 := by
  unfold cntP
  rw [sumI_snoc, Int.zero_add]
  simp [sumI]
theorem ind_bd (b : Bool) : 0 ≤ ind b ∧ ind b ≤ 1 := by unfold ind; split <;> omega
theorem cnt_bd (a : List R4) (k j : Nat) (hk : k ≤ 8) (hj : j ≤ 8) : 0 ≤ cntP a k j ∧ cntP a k j ≤ 72 := by
  have h1 := sumI_bd (fun x => sumI (fun y => ind (inL a x y)) 0 8) ((8 : Nat) * 1) (by omega) (fun x => sumI_bd (fun y => ind (inL a x y)) 1 (by omega) (fun y => ind_bd _) 8 0) k 0
  have h2 := sumI_bd (fun y => ind (inL a k y)) 1 (by omega) (fun y => ind_bd _) j 0
  unfold cntP
  omega
/-- What the regions of RegionSquares are. -/
structure SqE (a b p q r : List R4) : Prop where
  e1 : combineP orB a b = (p, 0)
  e2 : combineP andB a b = (q, 0)
  e3 : combineP notB a b = (r, 0)
  h0 : ∀ x y, hasP a x y = inL a x y
  h1 : ∀ x y, hasP p x y = (inL a x y || inL b x y)
  h2 : ∀ x y, hasP q x y = (inL a x y && inL b x y)
  h3 : ∀ x y, hasP r x y = (inL a x y && !inL b x y)
  area : areaP a = cntP a 8 0
theorem Reg.has {s m : Nat} {l : List R4} (h : Reg s m l) (hs : s ≤ 10) (hm : m ≤ 120) (x y : Int) : hasP l x y = inL l x y := by
  unfold hasP; rw [h.valid (by omega) hm]; rfl
theorem squares_all {a b : List R4} (ha : Reg (7 : Nat) 28 a) (hb : Reg (7 : Nat) 28 b) : ∃ p q r, SqE a b p q r := by
  have hor := choose_reg orB rfl 7 ha.ins hb.ins
  have han := choose_reg andB rfl 7 ha.ins hb.ins
  have hno := choose_reg notB rfl 7 ha.ins hb.ins
  refine ⟨_, _, _, combine_reg orB rfl 7 28 28 (by omega) (by omega) (by omega) ha hb, combine_reg andB rfl 7 28 28 (by omega) (by omega) (by omega) ha hb, combine_reg notB rfl 7 28 28 (by omega) (by omega) (by omega) ha hb, ha.has (by omega) (by omega), fun x y => ?_, fun x y => ?_, fun x y => ?_, ?_⟩
  · rw [hor.has (by omega) (by omega), choose_mem orB rfl ha.ins.pos hb.ins.pos]; rfl
  · rw [han.has (by omega) (by omega), choose_mem andB rfl ha.ins.pos hb.ins.pos]; rfl
  · rw [hno.has (by omega) (by omega), choose_mem notB rfl ha.ins.pos hb.ins.pos]; rfl
  · rw [(ha.area (by omega) (by omega)).1]
    have h1 := canonP_canon a ha.ins.pos
    rw [ha.canon] at h1
    rw [← canon_size h1 8 fun x y hx => by have := ha.ins.in x y hx; omega, sumI_swap]
    unfold cntP
    simp [sumI]
theorem tape_reg7 (r : List Int) : Reg (7 : Nat) 28 (mkReg r 7 4).1 := mkReg_reg r 7 4 (by omega) (by omega) (by omega) (by omega)
end Go.Proofs.Ytmkopmcjilaedaa
