/- Contracts: Same (reference); Order (of the laws' second words). -/
import Derived.Test.YtbkfdpdcnjecbaaTw
import Derived.Test.YtbkfdpdcnjecbaaT
import Derived.Laws.BytesArg
namespace Go.Proofs.Ytbkfdpdcnjecbaa
open Go.RowKit
set_option linter.unusedVariables false

theorem conv8 {W : World} {A : Option Addr} {n c : Nat} {xs : List Int} (h : Sl8 W A n c xs) : (convert 26 9 (.slice A n c)).run Try.prog W = .ok (.string (strOfNums xs)) W := by
  rcases Nat.eq_zero_or_pos n with h0 | h0
  · subst h0
    obtain rfl : xs = [] := List.length_eq_zero_iff.1 h.len
    rcases A with _ | ad
    · exact run_convert_bytes_nil W _ _ Try.underlying26 Try.underlying5 0 c _ Try.underlying9
    · rw [run_convert_bytes_string W _ _ _ _ 0 c Try.underlying26 Try.underlying5 Try.underlying9, run_bytesToString W ad 0 c [] (by simpa using run_loadCells_list (P := Try.prog) W ad [] (fun j v hj => by simp at hj))]
      rfl
  · obtain ⟨b, off, rfl, hlt, hcell⟩ := h.lies.resolve_left (by omega)
    refine run_convert_bytes_arg W _ _ Try.underlying26 Try.underlying5 b off n c xs h.len (fun i hi => ?_) _ Try.underlying9
    have hl : i < xs.length := by have := h.len; omega
    have := hcell i (.int .u8 xs[i]) (by simp [hl])
    rw [this]
    simp [hl]
theorem str_inj {xs ys : List Int} (hx : Bytes xs) (hy : Bytes ys) (h : (strOfNums xs).toList = (strOfNums ys).toList) : xs = ys := by
  have h1 : xs.map (fun n => UInt8.ofNat n.toNat) = ys.map (fun n => UInt8.ofNat n.toNat) := by
    have e : ∀ l : List Int, (strOfNums l).toList = l.map fun n => UInt8.ofNat n.toNat := fun l => by
      rw [← strOfNums_data]
      exact ByteArray.toList_eq _
    rw [e, e] at h
    exact h
  clear h
  induction xs generalizing ys with
  | nil => cases ys with
    | nil => rfl
    | cons y r => simp at h1
  | cons x r ih => cases ys with
    | nil => simp at h1
    | cons y s =>
      simp only [List.map_cons, List.cons.injEq] at h1
      have e1 := hx x (by simp)
      have e2 := hy y (by simp)
      have e3 := congrArg UInt8.toNat h1.1
      simp only [UInt8.toNat_ofNat'] at e3
      rw [ih (fun b hb => hx b (by simp [hb])) (fun b hb => hy b (by simp [hb])) h1.2]
      congr 1
      omega
theorem str_iff {xs ys : List Int} (hx : Bytes xs) (hy : Bytes ys) : (strOfNums xs).toList = (strOfNums ys).toList ↔ xs = ys := ⟨str_inj hx hy, fun h => by rw [h]⟩

set_option maxHeartbeats 800000 in
theorem same_any (A B C D : Option Addr) (n c m d p e q f : Nat) (xs ys zs us : List Int) (w : World) (hA : Sl8 w A n c xs) (hB : Sl8 w B m d ys) (hC : Sl8 w C p e zs) (hD : Sl8 w D q f us) :
    Calls Try.prog 21 #[.agg #[.slice A n c, .slice B m d], .agg #[.slice C p e, .slice D q f]] w fun e w' => e = .returned (.bool (decide (xs = zs) && decide (ys = us))) ∧ Below w.heap.size w w' := by
  obtain ⟨w1, hw1⟩ : ∃ w1 : World, w1 = (w.alloc (Obj.cells #[Value.slice A n c, Value.slice B m d] 28)).alloc (Obj.cells #[Value.slice C p e, Value.slice D q f] 28) := ⟨_, rfl⟩
  have hb1 : Below w.heap.size w w1 := by rw [hw1]; exact (by repeat' (first | with_reducible exact Below.refl _ _ | with_reducible refine below_drewN ?_ _ | with_reducible refine Below.drew ?_ | with_reducible refine Below.alloc ?_ ?_ _ | with_reducible refine Below.setCell ?_ ?_ _ | with_reducible refine Below.trans ?_ (Below.mono (by with_reducible assumption) ?_) | (simp; done) | (simp; omega) | omega))
  have k1 := conv8 (hA.below hb1)
  have k2 := conv8 (hB.below hb1)
  have k3 := conv8 (hC.below hb1)
  have k4 := conv8 (hD.below hb1)
  rw [hw1] at k1 k2 k3 k4
  have H13 := Lib.hid (str_iff hA.byt hC.byt)
  have H24 := Lib.hid (str_iff hB.byt hD.byt)
  have HA := Lib.hid hA
  have HB := Lib.hid hB
  have HC := Lib.hid hC
  have HD := Lib.hid hD
  have Hw1 := Lib.hid hw1
  clear hA hB hC hD hw1 hb1
  generalize strOfNums xs = s1 at *
  generalize strOfNums ys = s2 at *
  generalize strOfNums zs = s3 at *
  generalize strOfNums us = s4 at *
  go_enter Try.func21, Try.ntmps21
  go_wp2
  all_goals
    go_ret
    refine ⟨ret_bool ?_, (by repeat' (first | with_reducible exact Below.refl _ _ | with_reducible refine below_drewN ?_ _ | with_reducible refine Below.drew ?_ | with_reducible refine Below.alloc ?_ ?_ _ | with_reducible refine Below.setCell ?_ ?_ _ | with_reducible refine Below.trans ?_ (Below.mono (by with_reducible assumption) ?_) | (simp; done) | (simp; omega) | omega))⟩
    first
      | (rw [beq_iff_eq, H24.out]; simp [H13.out.1 (by assumption)])
      | (simp; intro h; exact absurd (H13.out.2 h) (by assumption))

/-- An order off the tape. -/
def mkO (r : List Int) (n : Int) : Ord4 := ⟨n, 1 + nx r 60, 1 + nx r.tail 200 * nx r.tail.tail 2000, 1 + nx r.tail.tail.tail 900⟩
def OrdPost (w : World) (g : Nat) (r : List Int) (o : Ord4) (e : Ending) (w' : World) : Prop :=
  e = .returned (.agg #[.int .i64 o.n, .int .i64 o.f, .int .i64 o.a, .int .i64 o.d]) ∧ TapeAt w' g r ∧ w.grownBy w' (some g)
set_option maxHeartbeats 800000 in
theorem order2_any (g : Nat) (r : List Int) (n : Int) (w : World) (ht : TapeAt w g r) :
    Calls Try.prog 11 #[.pointer (some ⟨g, 0, none⟩), .int .i64 n] w (OrdPost w g r.tail.tail.tail.tail (mkO r n)) := by
  have hlt := ht.lt
  have b1 := nx_bd r 60 (by omega)
  have b2 := nx_bd r.tail 200 (by omega)
  have b3 := nx_bd r.tail.tail 2000 (by omega)
  have b4 := nx_bd r.tail.tail.tail 900 (by omega)
  have hmul : 0 ≤ nx r.tail 200 * nx r.tail.tail 2000 ∧ nx r.tail 200 * nx r.tail.tail 2000 ≤ 400000 := by
    have h1 := Int.mul_nonneg b2.1 b3.1
    have h2 : nx r.tail 200 * nx r.tail.tail 2000 ≤ 200 * 2000 := Int.mul_le_mul (by omega) (by omega) (by omega) (by omega)
    omega
  obtain ⟨hmul1, hmul2⟩ := hmul
  have Ht := Lib.hid ht
  have Hm : Hid (mkO r n = ⟨n, 1 + nx r 60, 1 + nx r.tail 200 * nx r.tail.tail 2000, 1 + nx r.tail.tail.tail 900⟩) := rfl
  generalize mkO r n = o at *
  clear ht
  go_enter Try.func11, Try.ntmps11
  go_wp2_with fail
  refine (range_any g r 1 60 _ (Ht.out.alloc _) (by omega) (by omega) (by omega)).mono ?_
  rintro e w1 ⟨rfl, ht1, hg1⟩
  go_wp2_with fail
  refine (next_any g _ 200 _ ht1 (by omega)).mono ?_
  rintro e w2 ⟨rfl, ht2, hg2⟩
  go_wp2_with fail
  refine (next_any g _ 2000 _ ht2 (by omega)).mono ?_
  rintro e w3 ⟨rfl, ht3, hg3⟩
  have HT3 := Lib.hid ht3
  have hg123 := only_trans (only_trans hg1 hg2) hg3
  have Hg := Lib.hid hg123
  have hz : w.heap.size + 1 ≤ w3.heap.size := by have := hg123.size; simpa using this
  clear ht1 ht2 ht3 hg1 hg2 hg3 hg123
  go_wp2_with fail
  refine (range_any g _ 1 900 _ HT3.out (by omega) (by omega) (by omega)).mono ?_
  rintro e w4 ⟨rfl, ht4, hg4⟩
  have hz4 : w.heap.size + 1 ≤ w4.heap.size := by have := hg4.size; omega
  have HT4 := Lib.hid ht4
  have hbx : w4.heap[w.heap.size]? = some (.cells #[.int .i64 0, .int .i64 0, .int .i64 0, .int .i64 0] 32 (0, 0)) := by
    refine (hg4.block w.heap.size (by omega) (by intro e; injection e; omega)).trans ?_
    refine (Hg.out.block w.heap.size (by simp) (by intro e; injection e; omega)).trans ?_
    exact heap_alloc_new w _
  have r0 : w4.cell? ⟨w.heap.size, 0, none⟩ = some (.int .i64 0) := cell_of_row w4 _ 0 _ _ _ hbx
  have r1 : w4.cell? ⟨w.heap.size, 1, none⟩ = some (.int .i64 0) := cell_of_row w4 _ 1 _ _ _ hbx
  have r2 : w4.cell? ⟨w.heap.size, 2, none⟩ = some (.int .i64 0) := cell_of_row w4 _ 2 _ _ _ hbx
  have r3 : w4.cell? ⟨w.heap.size, 3, none⟩ = some (.int .i64 0) := cell_of_row w4 _ 3 _ _ _ hbx
  have f0 : w4.frozen? ⟨w.heap.size, 0, none⟩ = false := frozen_of_row w4 _ 0 _ _ hbx
  have f1 : w4.frozen? ⟨w.heap.size, 1, none⟩ = false := frozen_of_row w4 _ 1 _ _ hbx
  have f2 : w4.frozen? ⟨w.heap.size, 2, none⟩ = false := frozen_of_row w4 _ 2 _ _ hbx
  have f3 : w4.frozen? ⟨w.heap.size, 3, none⟩ = false := frozen_of_row w4 _ 3 _ _ hbx
  have Hg4 := Lib.hid (only_trans Hg.out hg4)
  clear hg4 ht4 hbx
  go_wp2
  refine bodyPost_ret (v := .agg #[.int .i64 n, .int .i64 (1 + nx r 60), .int .i64 (1 + nx r.tail 200 * nx r.tail.tail 2000), .int .i64 (1 + nx r.tail.tail.tail 900)]) (by simp [results, Try.results11, go_sem, *]) rfl ?_
  refine ⟨by rw [Hm.out], ?_, ?_⟩
  · exact (((HT4.out.setCell (by simpa using hlt) _).setCell (by simpa using hlt) _).setCell (by simpa using hlt) _).setCell (by simpa using hlt) _
  · have h1 : w.grownBy w4 (some g) := ⟨Hg4.out.os, Hg4.out.tape, Hg4.out.output, by omega, fun i hi hne => (Hg4.out.block i (by simp; omega) hne).trans (Below.heap_alloc w _ i hi)⟩
    exact only_setCell (only_setCell (only_setCell (only_setCell h1 (.inr (by simp)) _) (.inr (by simp)) _) (.inr (by simp)) _) (.inr (by simp)) _
end Go.Proofs.Ytbkfdpdcnjecbaa
