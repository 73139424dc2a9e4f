/- Contract: Sum (tolerance). -/
import Derived.Test.YteehihmjbibebaaGreatMv
namespace Go.Proofs.YteehihmjbibebaaGreat
open Go.RowKit
set_option linter.unusedVariables false
set_option linter.unusedSimpArgs false

/-- The cells of measurements. -/
def mCells (l : List (Int × Int)) : List Value := l.flatMap fun m => [.int .i64 m.1, .int .i64 m.2]
theorem mCells_len (l : List (Int × Int)) : (mCells l).length = l.length * 2 := by
  induction l with
  | nil => rfl
  | cons a t ih => simp [mCells] at ih ⊢; omega
theorem mCells_at (l : List (Int × Int)) (i : Nat) (h : i < l.length) : (mCells l)[i * 2]? = some (.int .i64 l[i].1) ∧ (mCells l)[i * 2 + 1]? = some (.int .i64 l[i].2) := by
  induction l generalizing i with
  | nil => simp at h
  | cons a t ih =>
    cases i with
    | zero => exact ⟨rfl, rfl⟩
    | succ i =>
      have := ih i (by simpa using h)
      have e1 : (mCells (a :: t)) = .int .i64 a.1 :: .int .i64 a.2 :: mCells t := rfl
      rw [e1, show (i + 1) * 2 = i * 2 + 1 + 1 by omega, show i * 2 + 1 + 1 + 1 = (i * 2 + 1) + 1 + 1 by omega]
      simp only [List.getElem?_cons_succ, List.getElem_cons_succ]
      exact this
/-- A slice of measurements. -/
structure SlM (w : World) (A : Option Addr) (n c : Nat) (l : List (Int × Int)) : Prop where
  len : l.length = n
  cap : n ≤ c
  top : c ≤ maxLen
  lies : Lies w A n (mCells l)
theorem SlM.below {w w' : World} {A : Option Addr} {n c : Nat} {l : List (Int × Int)} (h : SlM w A n c l) (hb : Below w.heap.size w w') : SlM w' A n c l := ⟨h.len, h.cap, h.top, h.lies.below hb⟩
theorem SlM.at {w : World} {A : Option Addr} {n c : Nat} {l : List (Int × Int)} (h : SlM w A n c l) (i : Nat) (hi : i < l.length) : ∃ b off, A = some ⟨b, off, none⟩ ∧ b < w.heap.size ∧ w.cell? ⟨b, off + i * 2, none⟩ = some (.int .i64 l[i].1) ∧ w.cell? ⟨b, off + i * 2 + 1, none⟩ = some (.int .i64 l[i].2) := by
  obtain ⟨b, off, hA, hb, hc⟩ := h.lies.resolve_left (by have := h.len; omega)
  obtain ⟨j1, j2⟩ := mCells_at l i hi
  exact ⟨b, off, hA, hb, hc _ _ j1, hc _ _ j2⟩
/-- The sums. -/
def sumA (l : List (Int × Int)) : Int := (l.map (·.1)).sum
def sumB (l : List (Int × Int)) : Int := (l.map (·.2)).sum
/-- What Sum returns: the area, the border, the error. -/
def sumV (l : List (Int × Int)) : Int × Int × Int := if 60 < l.length then (0, 0, 1) else if l.all (fun m => measB m.1 m.2) && measB (sumA l) (sumB l) then (sumA l, sumB l, 0) else (0, 0, 3)
theorem box2x {w : World} {g i : Nat} {x y : Value} (h : g ≠ i) : ((w.setCell ⟨g, 0, none⟩ x).setCell ⟨g, 1, none⟩ y).heap[i]? = w.heap[i]? :=
  (Below.heap_setCell _ _ _ _ (fun e => h e.symm)).trans (Below.heap_setCell _ _ _ _ (fun e => h e.symm))
theorem sumA_take (l : List (Int × Int)) (k : Nat) (h : k < l.length) : sumA (l.take (k + 1)) = sumA (l.take k) + l[k].1 ∧ sumB (l.take (k + 1)) = sumB (l.take k) + l[k].2 := by
  unfold sumA sumB
  rw [List.take_succ_eq_append_getElem h, List.map_append, List.map_append, List.sum_append, List.sum_append]
  constructor <;> simp
theorem sum_bd : ∀ (l : List (Int × Int)), l.all (fun m => measB m.1 m.2) = true → 0 ≤ sumA l ∧ sumA l ≤ l.length * 268435456 ∧ 0 ≤ sumB l ∧ sumB l ≤ l.length * 16777216
  | [], _ => by simp [sumA, sumB]
  | a :: t, h => by
    rw [List.all_cons, Bool.and_eq_true] at h
    have h1 := sum_bd t h.2
    have h2 := (measB_iff _ _).1 h.1
    have e1 : sumA (a :: t) = a.1 + sumA t := by simp [sumA]
    have e2 : sumB (a :: t) = a.2 + sumB t := by simp [sumB]
    rw [e1, e2, List.length_cons]
    omega
def SumPost (w : World) (x : Int × Int × Int) (e : Ending) (w' : World) : Prop := e = .returned (.tuple #[.agg #[.int .i64 x.1, .int .i64 x.2.1], .int .i64 x.2.2]) ∧ Below w.heap.size w w'

set_option maxHeartbeats 8000000 in
set_option maxRecDepth 100000 in
theorem sumT_any (A : Option Addr) (n c : Nat) (l : List (Int × Int)) (w : World) (hA : SlM w A n c l) :
    Calls Tryz.prog 17 #[.slice A n c] w (SumPost w (sumV l)) := by
  have hn := hA.len
  have HA := Lib.hid hA
  have hnm := Nat.le_trans hA.cap hA.top
  unfold maxLen at hnm
  clear hA
  by_cases hbig : 60 < n
  · have hb' : (60 : Int) < (n : Int) := by omega
    have hbd : decide (60 < n) = true := decide_eq_true hbig
    have Hv : Hid (sumV l = (0, 0, 1)) := Lib.hid (by unfold sumV; rw [if_pos (by omega)])
    generalize sumV l = res at *
    have hr0 : ∀ o, (w.alloc o).heap[w.heap.size]? = some o := fun o => heap_alloc_new w o
    go_enter Tryz.func17, Tryz.ntmps17
    go_upto_region 1 with fail
    obtain ⟨w1, hw1⟩ : ∃ w1 : World, w1 = w.alloc (.cells #[.int .i64 0, .int .i64 0] 23) := ⟨_, rfl⟩
    rw [← hw1]
    have Hr1 : Hid (w1.heap[w.heap.size]? = some (.cells #[.int .i64 0, .int .i64 0] 23 (0, 0))) := Lib.hid (by rw [hw1]; exact heap_alloc_new w _)
    have Hb1 : Hid (Below w.heap.size w w1) := Lib.hid (by rw [hw1]; exact (by repeat' (first | with_reducible exact Below.refl _ _ | with_reducible refine below_drewN ?_ _ | with_reducible refine Below.drew ?_ | with_reducible refine Below.alloc ?_ ?_ _ | with_reducible refine Below.setCell ?_ ?_ _ | with_reducible refine Below.trans ?_ (Below.mono (by with_reducible assumption) ?_) | (simp; done) | (simp; omega) | omega)))
    have c0 := cell_of_row w1 w.heap.size 0 _ _ _ Hr1.out
    have c1 := cell_of_row w1 w.heap.size 1 _ _ _ Hr1.out
    have f0 := frozen_of_row w1 w.heap.size 0 _ _ Hr1.out
    have f1 := frozen_of_row w1 w.heap.size 1 _ _ Hr1.out
    clear hw1 hr0
    go_wp2
    have s0 : ((w1.setCell ⟨w.heap.size, 0, none⟩ (.int .i64 0)).setCell ⟨w.heap.size, 1, none⟩ (.int .i64 0)).heap[w.heap.size]? = some (.cells #[.int .i64 0, .int .i64 0] 23 (0, 0)) := box2 Hr1.out
    have z0 := cell_of_row _ w.heap.size 0 _ _ _ s0
    have z1 := cell_of_row _ w.heap.size 1 _ _ _ s0
    refine bodyPost_ret (v := .tuple #[.agg #[.int .i64 0, .int .i64 0], .int .i64 1]) (by simp [results, Tryz.results17, go_sem, *]) rfl ?_
    rw [Hv.out]
    exact ⟨rfl, (Hb1.out.setCell (Nat.le_refl _) _).setCell (Nat.le_refl _) _⟩
  · have hb' : ¬ (60 : Int) < (n : Int) := by omega
    have hbd : decide (60 < n) = false := decide_eq_false hbig
    have Hv : Hid (sumV l = if l.all (fun m => measB m.1 m.2) && measB (sumA l) (sumB l) then (sumA l, sumB l, 0) else (0, 0, 3)) := Lib.hid (by unfold sumV; rw [if_neg (by omega)])
    generalize sumV l = res at *
    go_enter Tryz.func17, Tryz.ntmps17
    go_upto_region 5 with fail
    obtain ⟨w1, hw1⟩ : ∃ w1 : World, w1 = (w.alloc (.cells #[.int .i64 0, .int .i64 0] 23)).alloc (.cells #[.int .i64 0, .int .i64 0] 23) := ⟨_, rfl⟩
    rw [← hw1]
    have Hr1 : Hid (w1.heap[w.heap.size]? = some (.cells #[.int .i64 0, .int .i64 0] 23 (0, 0))) := Lib.hid (by rw [hw1]; exact (Below.heap_alloc _ _ _ (by simp)).trans (heap_alloc_new w _))
    have Hr2 : Hid (w1.heap[w.heap.size + 1]? = some (.cells #[.int .i64 0, .int .i64 0] 23 (0, 0))) := Lib.hid (by rw [hw1]; exact heap_alloc2_new w _ _)
    have Hb1 : Hid (Below w.heap.size w w1) := Lib.hid (by rw [hw1]; exact (by repeat' (first | with_reducible exact Below.refl _ _ | with_reducible refine below_drewN ?_ _ | with_reducible refine Below.drew ?_ | with_reducible refine Below.alloc ?_ ?_ _ | with_reducible refine Below.setCell ?_ ?_ _ | with_reducible refine Below.trans ?_ (Below.mono (by with_reducible assumption) ?_) | (simp; done) | (simp; omega) | omega)))
    have hs1 : w1.heap.size = w.heap.size + 2 := by rw [hw1]; simp
    clear hw1
    go_loopw [6, 13] (fun _ i wr => ∃ j : Nat, j ≤ n ∧ i = .int .i64 (j : Int) ∧ Hid ((l.take j).all (fun m => measB m.1 m.2) = true) ∧ Below w.heap.size w wr ∧ w.heap.size + 2 ≤ wr.heap.size ∧ wr.heap[w.heap.size]? = some (.cells #[.int .i64 0, .int .i64 0] 23 (0, 0)) ∧ wr.heap[w.heap.size + 1]? = some (.cells #[.int .i64 (sumA (l.take j)), .int .i64 (sumB (l.take j))] 23 (0, 0))) (fun _ i _ => n - (intOf i).toNat)
    case atStart => exact ⟨0, Nat.zero_le _, rfl, Lib.hid rfl, Hb1.out, by omega, Hr1.out, Hr2.out⟩
    case round =>
      obtain ⟨j, hj, rfl, Hall, hbr, hsr, hq, hp⟩ := hrel
      have Hbr := Lib.hid hbr
      have Hq := Lib.hid hq
      have Hp := Lib.hid hp
      clear hs1
      by_cases hjn : j < n
      · have hjl : j < l.length := by omega
        obtain ⟨b, off, hAe, hb, c0, c1⟩ := (HA.out.below hbr).at j hjl
        subst hAe
        have Hst := Lib.hid (sumA_take l j hjl)
        have Hal := Lib.hid (all_take_succ l (fun m => measB m.1 m.2) j hjl)
        have hsb := sum_bd _ Hall.out
        rw [List.length_take] at hsb
        have Hno : Hid (measB l[j].1 l[j].2 = false → res = (0, 0, 3)) := Lib.hid (fun h => by
          rw [Hv.out]
          have : l.all (fun m => measB m.1 m.2) = false := by
            cases h2 : l.all (fun m => measB m.1 m.2) with
            | false => rfl
            | true => rw [List.all_eq_true.1 h2 l[j] (List.getElem_mem hjl)] at h; cases h
          rw [this]; rfl)
        generalize l[j] = m at *
        generalize sumA (l.take j) = sa at *
        generalize sumB (l.take j) = sb at *
        have HM := Lib.hid (fun W => validT_any m.1 m.2 W)
        have hjn' : (j : Int) < (n : Int) := by omega
        cases hm : measB m.1 m.2 with
        | true =>
          rw [hm] at Hal HM
          have hmb := (measB_iff _ _).1 hm
          have hw1 : IntKind.i64.wrap (sa + m.1) = sa + m.1 := IntWalk.i64_in _ (by omega)
          have hw2 : IntKind.i64.wrap (sb + m.2) = sb + m.2 := IntWalk.i64_in _ (by omega)
          clear hm hmb hsb hbr hq hp Hno
          go_upto_region 9 with (first
            | (go_at_call 29
               refine (HM.out _).mono ?_
               rintro e w2 ⟨rfl, hb2⟩
               have Hb2 : Hid (Below w.heap.size w w2) := Lib.hid ((Hbr.out.alloc (by omega) _).trans (hb2.mono (by simp; omega)))
               have hs2 : wr.heap.size < w2.heap.size := by have := hb2.size; simp at this; omega
               have Hq2 := Lib.hid ((hb2.block w.heap.size (by simp; omega)).trans ((Below.heap_alloc _ _ _ (by omega)).trans Hq.out))
               have Hp2 := Lib.hid ((hb2.block (w.heap.size + 1) (by simp; omega)).trans ((Below.heap_alloc _ _ _ (by omega)).trans Hp.out))
               have Hm2 := (hb2.block wr.heap.size (by simp)).trans (heap_alloc_new wr _)
               have k0 := cell_of_row w2 (w.heap.size + 1) 0 _ _ _ Hp2.out
               have k1 := cell_of_row w2 (w.heap.size + 1) 1 _ _ _ Hp2.out
               have k2 := frozen_of_row w2 (w.heap.size + 1) 0 _ _ Hp2.out
               have k3 := frozen_of_row w2 (w.heap.size + 1) 1 _ _ Hp2.out
               have m0 := cell_of_row w2 wr.heap.size 0 _ _ _ Hm2
               have m1 := cell_of_row w2 wr.heap.size 1 _ _ _ Hm2
               clear hb2 Hm2)
            | fail)
          go_wp2
          go_roundw
          case rel =>
            refine ⟨j + 1, by omega, by go_num, Lib.hid (by rw [Hal.out, Hall.out]; rfl), (Hb2.out.setCell (by simp) _).setCell (by simp) _, by simp [World.setCell]; omega, ?_, ?_⟩
            · exact (box2x (by omega)).trans Hq2.out
            · rw [Hst.out.1, Hst.out.2]; exact box2 Hp2.out
          case measure => simp [intOf]; omega
        | false =>
          rw [hm] at HM
          have Hres := Lib.hid (Hno.out hm)
          clear hm hsb hbr hq hp Hno
          go_upto_region 8 with (first
            | (go_at_call 29
               refine (HM.out _).mono ?_
               rintro e w2 ⟨rfl, hb2⟩
               have Hb2 : Hid (Below w.heap.size w w2) := Lib.hid ((Hbr.out.alloc (by omega) _).trans (hb2.mono (by simp; omega)))
               have Hq2 := Lib.hid ((hb2.block w.heap.size (by simp; omega)).trans ((Below.heap_alloc _ _ _ (by omega)).trans Hq.out))
               have k0 := cell_of_row w2 w.heap.size 0 _ _ _ Hq2.out
               have k1 := cell_of_row w2 w.heap.size 1 _ _ _ Hq2.out
               have k2 := frozen_of_row w2 w.heap.size 0 _ _ Hq2.out
               have k3 := frozen_of_row w2 w.heap.size 1 _ _ Hq2.out
               clear hb2)
            | fail)
          go_wp2
          have s0 : ((w2.setCell ⟨w.heap.size, 0, none⟩ (.int .i64 0)).setCell ⟨w.heap.size, 1, none⟩ (.int .i64 0)).heap[w.heap.size]? = some (.cells #[.int .i64 0, .int .i64 0] 23 (0, 0)) := box2 Hq2.out
          have z0 := cell_of_row _ w.heap.size 0 _ _ _ s0
          have z1 := cell_of_row _ w.heap.size 1 _ _ _ s0
          refine bodyPost_ret (v := .tuple #[.agg #[.int .i64 0, .int .i64 0], .int .i64 3]) (by simp [results, Tryz.results17, go_sem, *]) rfl ?_
          rw [Hres.out]
          exact ⟨rfl, (Hb2.out.setCell (Nat.le_refl _) _).setCell (Nat.le_refl _) _⟩
      · have hall : l.all (fun m => measB m.1 m.2) = true := by have := Hall.out; rw [List.take_of_length_le (by omega)] at this; exact this
        have Hp' : Hid (wr.heap[w.heap.size + 1]? = some (.cells #[.int .i64 (sumA l), .int .i64 (sumB l)] 23 (0, 0))) := Lib.hid (by have := hp; rw [List.take_of_length_le (by omega)] at this; exact this)
        rw [hall, Bool.true_and] at Hv
        have HM := Lib.hid (fun W => validT_any (sumA l) (sumB l) W)
        generalize sumA l = sa at *
        generalize sumB l = sb at *
        have hjn' : ¬ (j : Int) < (n : Int) := by omega
        have k0 := cell_of_row wr (w.heap.size + 1) 0 _ _ _ Hp'.out
        have k1 := cell_of_row wr (w.heap.size + 1) 1 _ _ _ Hp'.out
        clear hall hbr hq hp Hp
        cases hm : measB sa sb with
        | true =>
          rw [hm] at HM
          have Hres : Hid (res = (sa, sb, 0)) := Lib.hid (by rw [Hv.out, hm]; rfl)
          clear hm Hv
          go_wp2_with (first
            | (go_at_call 29
               refine (HM.out _).mono ?_
               rintro e w2 ⟨rfl, hb2⟩
               have Hb2 : Hid (Below w.heap.size w w2) := Lib.hid (Hbr.out.trans (hb2.mono (by omega)))
               have Hq2 := Lib.hid ((hb2.block w.heap.size (by omega)).trans Hq.out)
               have Hp2 := Lib.hid ((hb2.block (w.heap.size + 1) (by omega)).trans Hp'.out)
               have g0 := cell_of_row w2 (w.heap.size + 1) 0 _ _ _ Hp2.out
               have g1 := cell_of_row w2 (w.heap.size + 1) 1 _ _ _ Hp2.out
               have q0 := cell_of_row w2 w.heap.size 0 _ _ _ Hq2.out
               have q1 := cell_of_row w2 w.heap.size 1 _ _ _ Hq2.out
               have q2 := frozen_of_row w2 w.heap.size 0 _ _ Hq2.out
               have q3 := frozen_of_row w2 w.heap.size 1 _ _ Hq2.out
               clear hb2)
            | fail)
          have s0 : ((w2.setCell ⟨w.heap.size, 0, none⟩ (.int .i64 sa)).setCell ⟨w.heap.size, 1, none⟩ (.int .i64 sb)).heap[w.heap.size]? = some (.cells #[.int .i64 sa, .int .i64 sb] 23 (0, 0)) := box2 Hq2.out
          have z0 := cell_of_row _ w.heap.size 0 _ _ _ s0
          have z1 := cell_of_row _ w.heap.size 1 _ _ _ s0
          refine bodyPost_ret (v := .tuple #[.agg #[.int .i64 sa, .int .i64 sb], .int .i64 0]) (by simp [results, Tryz.results17, go_sem, *]) rfl ?_
          rw [Hres.out]
          exact ⟨rfl, (Hb2.out.setCell (Nat.le_refl _) _).setCell (Nat.le_refl _) _⟩
        | false =>
          rw [hm] at HM
          have Hres : Hid (res = (0, 0, 3)) := Lib.hid (by rw [Hv.out, hm]; rfl)
          clear hm Hv
          go_wp2_with (first
            | (go_at_call 29
               refine (HM.out _).mono ?_
               rintro e w2 ⟨rfl, hb2⟩
               have Hb2 : Hid (Below w.heap.size w w2) := Lib.hid (Hbr.out.trans (hb2.mono (by omega)))
               have Hq2 := Lib.hid ((hb2.block w.heap.size (by omega)).trans Hq.out)
               have q0 := cell_of_row w2 w.heap.size 0 _ _ _ Hq2.out
               have q1 := cell_of_row w2 w.heap.size 1 _ _ _ Hq2.out
               have q2 := frozen_of_row w2 w.heap.size 0 _ _ Hq2.out
               have q3 := frozen_of_row w2 w.heap.size 1 _ _ Hq2.out
               clear hb2)
            | fail)
          have s0 : ((w2.setCell ⟨w.heap.size, 0, none⟩ (.int .i64 0)).setCell ⟨w.heap.size, 1, none⟩ (.int .i64 0)).heap[w.heap.size]? = some (.cells #[.int .i64 0, .int .i64 0] 23 (0, 0)) := box2 Hq2.out
          have z0 := cell_of_row _ w.heap.size 0 _ _ _ s0
          have z1 := cell_of_row _ w.heap.size 1 _ _ _ s0
          refine bodyPost_ret (v := .tuple #[.agg #[.int .i64 0, .int .i64 0], .int .i64 3]) (by simp [results, Tryz.results17, go_sem, *]) rfl ?_
          rw [Hres.out]
          exact ⟨rfl, (Hb2.out.setCell (Nat.le_refl _) _).setCell (Nat.le_refl _) _⟩
end Go.Proofs.YteehihmjbibebaaGreat
