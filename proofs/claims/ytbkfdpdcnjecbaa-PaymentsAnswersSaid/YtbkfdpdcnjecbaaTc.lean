/- Contracts: clone, Crash, Sync (payments). -/
import Derived.Test.YtbkfdpdcnjecbaaTw
namespace Go.Proofs.Ytbkfdpdcnjecbaa
open Go.RowKit
set_option linter.unusedVariables false

set_option maxHeartbeats 800000 in
theorem crashP_any (A B : Option Addr) (n c m d : Nat) (xs ys : List Int) (k : Int) (w : World) (hs : n ≤ 100000 ∧ m ≤ 100000) (hk : -9223372036854775808 ≤ k ∧ k ≤ 9223372036854775807) (hA : Sl8 w A n c xs) (hB : Sl8 w B m d ys) :
    Calls Try.prog 16 #[.agg #[.slice A n c, .slice B m d], .int .i64 k] w (TapePost w (xs ++ ys.take (keepN k m)) []) := by
  have HA := Lib.hid hA
  have hmd : (m : Int) ≤ (d : Int) := by have := hB.cap; omega
  obtain ⟨zs, hzs⟩ : ∃ zs, ys.take (keepN k m) = zs := ⟨_, rfl⟩
  rw [hzs]
  have HBk := Lib.hid (hB.take (keepN k m) (keepN_le k m))
  rw [hzs] at HBk
  have Hkn : Hid (keepN k m = (min (max k 0) (m : Int)).toNat) := rfl
  clear hzs hB hA
  have hcase : (k < 0 ∧ keepN k m = 0) ∨ (∃ q : Nat, k = (q : Int) ∧ (q : Int) < (m : Int) ∧ keepN k m = q) ∨ (k = (m : Int) ∧ keepN k m = m) ∨ ((m : Int) < k ∧ 0 ≤ k ∧ keepN k m = m) := by
    have := Hkn.out
    rcases (show k < 0 ∨ (0 ≤ k ∧ k < (m : Int)) ∨ k = (m : Int) ∨ (m : Int) < k by omega) with h1 | ⟨h1, h2⟩ | h1 | h1
    · exact .inl ⟨h1, by omega⟩
    · exact .inr (.inl ⟨k.toNat, by omega, by omega, by omega⟩)
    · exact .inr (.inr (.inl ⟨h1, by omega⟩))
    · exact .inr (.inr (.inr ⟨h1, by omega, by omega⟩))
  clear Hkn
  rcases hcase with ⟨h1, e⟩ | ⟨q, rfl, h1, e⟩ | ⟨rfl, e⟩ | ⟨h1, h0, e⟩
  all_goals
    try (have hqd : (q : Int) ≤ (d : Int) := by omega)
    rw [e] at HBk
    clear e
    go_enter Try.func16, Try.ntmps16
    go_wp2_with fail
    obtain ⟨w1, hw1⟩ : ∃ w1 : World, w1 = (w.alloc (.cells #[.slice A n c, .slice B m d] 28)).alloc (.cells #[.slice none 0 0, .slice none 0 0] 28) := ⟨_, rfl⟩
    rw [← hw1]
    have n0 : w1.cell? ⟨w.heap.size, 0, none⟩ = some (.slice A n c) := by rw [hw1]; simp [go_sem]
    have n1 : w1.cell? ⟨w.heap.size, 1, none⟩ = some (.slice B m d) := by rw [hw1]; simp [go_sem]
    have r0 : w1.cell? ⟨w.heap.size + 1, 0, none⟩ = some (.slice none 0 0) := by rw [hw1]; simp [go_sem]
    have r1 : w1.cell? ⟨w.heap.size + 1, 1, none⟩ = some (.slice none 0 0) := by rw [hw1]; simp [go_sem]
    have f0 : w1.frozen? ⟨w.heap.size + 1, 0, none⟩ = false := by rw [hw1]; simp [go_sem]
    have f1 : w1.frozen? ⟨w.heap.size + 1, 1, none⟩ = false := by rw [hw1]; simp [go_sem]
    have hs1 : w.heap.size + 1 < w1.heap.size := by rw [hw1]; simp
    have hb1 : Below w.heap.size w w1 := by rw [hw1]; exact (by repeat' (first | with_reducible exact Below.refl _ _ | with_reducible refine below_drewN ?_ _ | with_reducible refine Below.drew ?_ | with_reducible refine Below.alloc ?_ ?_ _ | with_reducible refine Below.setCell ?_ ?_ _ | with_reducible refine Below.trans ?_ (Below.mono (by with_reducible assumption) ?_) | (simp; done) | (simp; omega) | omega))
    have Hb1 := Lib.hid hb1
    have Hw1 := Lib.hid hw1
    clear hw1 hb1
    go_region_held3 (fun w' => w'.cell? ⟨w.heap.size, 0, none⟩ = some (.slice A n c) ∧ w'.cell? ⟨w.heap.size, 1, none⟩ = some (.slice B m d))
      (first | go_keep | ((repeat' apply And.intro) <;> go_keep))
      (first
        | (go_at_call 39
           refine (concatB_any w1.heap.size A B n c _ d xs zs _ (by simp [go_sem]) (by simp [go_sem]) (by simp) HA.out.len HBk.out.len (by omega) (by omega) (HA.out.lies.below (by have hb1 := Hb1.out; exact (by repeat' (first | with_reducible exact Below.refl _ _ | with_reducible assumption | with_reducible refine below_drewN ?_ _ | with_reducible refine Below.drew ?_ | with_reducible refine Below.alloc ?_ ?_ _ | with_reducible refine Below.setCell ?_ ?_ _ | with_reducible refine Below.trans ?_ (Below.mono (by with_reducible assumption) ?_) | with_reducible refine below_only ?_ (by with_reducible assumption) ?_ ?_ | (simp; done) | (simp; omega) | omega)))) (HBk.out.lies.below (by have hb1 := Hb1.out; exact (by repeat' (first | with_reducible exact Below.refl _ _ | with_reducible assumption | with_reducible refine below_drewN ?_ _ | with_reducible refine Below.drew ?_ | with_reducible refine Below.alloc ?_ ?_ _ | with_reducible refine Below.setCell ?_ ?_ _ | with_reducible refine Below.trans ?_ (Below.mono (by with_reducible assumption) ?_) | with_reducible refine below_only ?_ (by with_reducible assumption) ?_ ?_ | (simp; done) | (simp; omega) | omega))))).mono ?_
           rintro e w2 hput
           obtain ⟨v2, rfl, _, hb2⟩ := id hput
           obtain ⟨C, q2, rfl, hC, hCb⟩ := put_slice hput (HA.out.byt.app HBk.out.byt)
           obtain ⟨hc2, hf2⟩ := bcell hb2
           have n0' : w2.cell? ⟨w.heap.size, 0, none⟩ = _ := (hc2 w.heap.size 0 (by simp; omega)).trans ((cell_al _ _ _ (by omega)).trans n0)
           have n1' : w2.cell? ⟨w.heap.size, 1, none⟩ = _ := (hc2 w.heap.size 1 (by simp; omega)).trans ((cell_al _ _ _ (by omega)).trans n1)
           have r0' : w2.cell? ⟨(w.heap.size + 1), 0, none⟩ = _ := (hc2 (w.heap.size + 1) 0 (by simp; omega)).trans ((cell_al _ _ _ (by omega)).trans r0)
           have r1' : w2.cell? ⟨(w.heap.size + 1), 1, none⟩ = _ := (hc2 (w.heap.size + 1) 1 (by simp; omega)).trans ((cell_al _ _ _ (by omega)).trans r1)
           have f0' : w2.frozen? ⟨(w.heap.size + 1), 0, none⟩ = _ := (hf2 (w.heap.size + 1) 0 (by simp; omega)).trans ((froz_al _ _ _ (by omega)).trans f0)
           have f1' : w2.frozen? ⟨(w.heap.size + 1), 1, none⟩ = _ := (hf2 (w.heap.size + 1) 1 (by simp; omega)).trans ((froz_al _ _ _ (by omega)).trans f1)
           clear hc2 hf2 hput))
    all_goals
      go_wp2
      refine bodyPost_ret (v := .agg #[.slice C (xs ++ zs).length q2, .slice none 0 0]) (by simp [results, Try.results16, go_sem, *]) rfl ?_
      have hb1 := Hb1.out
      refine ⟨_, _, _, _, _, _, rfl, ?_, Sl8.nil_ _, (by repeat' (first | with_reducible exact Below.refl _ _ | with_reducible assumption | with_reducible refine below_drewN ?_ _ | with_reducible refine Below.drew ?_ | with_reducible refine Below.alloc ?_ ?_ _ | with_reducible refine Below.setCell ?_ ?_ _ | with_reducible refine Below.trans ?_ (Below.mono (by with_reducible assumption) ?_) | with_reducible refine below_only ?_ (by with_reducible assumption) ?_ ?_ | (simp; done) | (simp; omega) | omega)), fun ad h => (by have := hCb ad h; simp at this; omega), fun ad h => by cases h⟩
      have h1 := (hC.far (p := ⟨w.heap.size + 1, 0, none⟩) (fun ad h => by have := hCb ad h; simp at this ⊢; omega) (.slice C (xs ++ zs).length q2)).far (p := ⟨w.heap.size + 1, 1, none⟩) (fun ad h => by have := hCb ad h; simp at this ⊢; omega) (.slice none 0 0)
      simpa using h1

set_option maxHeartbeats 800000 in
theorem syncP_any (A B : Option Addr) (n c m d : Nat) (xs ys : List Int) (w : World) (hs : n ≤ 100000 ∧ m ≤ 100000) (hA : Sl8 w A n c xs) (hB : Sl8 w B m d ys) :
    Calls Try.prog 14 #[.agg #[.slice A n c, .slice B m d]] w (TapePost w (xs ++ ys) []) := by
  have HA := Lib.hid hA
  have HB := Lib.hid hB
  have Hk : Hid (ys.take (keepN (m : Int) m) = ys) := by
    refine List.take_of_length_le ?_
    rw [hB.len]
    unfold keepN
    omega
  clear hA hB
  go_enter Try.func14, Try.ntmps14
  go_wp2_with fail
  refine (crashP_any A B n c m d xs ys m _ hs (by omega) (HA.out.below (by repeat' (first | with_reducible exact Below.refl _ _ | with_reducible refine below_drewN ?_ _ | with_reducible refine Below.drew ?_ | with_reducible refine Below.alloc ?_ ?_ _ | with_reducible refine Below.setCell ?_ ?_ _ | with_reducible refine Below.trans ?_ (Below.mono (by with_reducible assumption) ?_) | (simp; done) | (simp; omega) | omega))) (HB.out.below (by repeat' (first | with_reducible exact Below.refl _ _ | with_reducible refine below_drewN ?_ _ | with_reducible refine Below.drew ?_ | with_reducible refine Below.alloc ?_ ?_ _ | with_reducible refine Below.setCell ?_ ?_ _ | with_reducible refine Below.trans ?_ (Below.mono (by with_reducible assumption) ?_) | (simp; done) | (simp; omega) | omega)))).mono ?_
  rintro e w2 ⟨C, q, u, D, r, v, rfl, hC, hD, hb2, hfC, hfD⟩
  have HfC := Lib.hid hfC
  have HfD := Lib.hid hfD
  clear hfC hfD
  rw [Hk.out] at hC
  have hg : w2.heap[w.heap.size + 1]? = some (.cells #[.slice none 0 0, .slice none 0 0] 28 (0, 0)) := (hb2.block (w.heap.size + 1) (by simp)).trans (heap_alloc2_new w _ _)
  have r0 : w2.cell? ⟨w.heap.size + 1, 0, none⟩ = some (.slice none 0 0) := cell_of_row w2 _ 0 _ _ _ hg
  have r1 : w2.cell? ⟨w.heap.size + 1, 1, none⟩ = some (.slice none 0 0) := cell_of_row w2 _ 1 _ _ _ hg
  have f0 : w2.frozen? ⟨w.heap.size + 1, 0, none⟩ = false := frozen_of_row w2 _ 0 _ _ hg
  have f1 : w2.frozen? ⟨w.heap.size + 1, 1, none⟩ = false := frozen_of_row w2 _ 1 _ _ hg
  have hbw : Below w.heap.size w w2 := (by repeat' (first | with_reducible exact Below.refl _ _ | with_reducible refine below_drewN ?_ _ | with_reducible refine Below.drew ?_ | with_reducible refine Below.alloc ?_ ?_ _ | with_reducible refine Below.setCell ?_ ?_ _ | with_reducible refine Below.trans ?_ (Below.mono (by with_reducible assumption) ?_) | (simp; done) | (simp; omega) | omega))
  have hs2 := hbw.size
  clear hb2
  have Hg := Lib.hid hg
  clear hg
  go_wp2
  refine bodyPost_ret (v := .agg #[.slice C q u, .slice D r v]) (by simp [results, Try.results14, go_sem, *]) rfl ?_
  exact ⟨_, _, _, _, _, _, rfl, hC.box Hg.out _ _, hD.box Hg.out _ _, (by repeat' (first | with_reducible exact Below.refl _ _ | with_reducible assumption | with_reducible refine below_drewN ?_ _ | with_reducible refine Below.drew ?_ | with_reducible refine Below.alloc ?_ ?_ _ | with_reducible refine Below.setCell ?_ ?_ _ | with_reducible refine Below.trans ?_ (Below.mono (by with_reducible assumption) ?_) | with_reducible refine below_only ?_ (by with_reducible assumption) ?_ ?_ | (simp; done) | (simp; omega) | omega)), fun ad h => (by have := HfC.out ad h; simp at this; omega), fun ad h => by have := HfD.out ad h; simp at this; omega⟩

set_option maxHeartbeats 800000 in
/-- clone: the slices are rows of the callee's own. -/
theorem cloneP_any (A B : Option Addr) (n c m d : Nat) (xs ys : List Int) (w : World) (hs : n ≤ 100000 ∧ m ≤ 100000) (hA : Sl8 w A n c xs) (hB : Sl8 w B m d ys) :
    Calls Try.prog 35 #[.agg #[.slice A n c, .slice B m d]] w fun e w' => ∃ v u, e = .returned (.agg #[v, u]) ∧ w'.ownsRow w.heap.size 5 1 v xs.length (xs.map (.int .u8)) ∧ w'.ownsRow w.heap.size 5 1 u ys.length (ys.map (.int .u8)) ∧ (∀ q, v.ownBlock = some q → u.ownBlock ≠ some q) ∧ Below w.heap.size w w' := by
  have HA := Lib.hid hA
  have HB := Lib.hid hB
  clear hA hB
  go_enter Try.func35, Try.ntmps35
  go_wp2_with fail
  obtain ⟨w1, hw1⟩ : ∃ w1 : World, w1 = (w.alloc (.cells #[.slice A n c, .slice B m d] 28)).alloc (.cells #[.slice none 0 0, .slice none 0 0] 28) := ⟨_, rfl⟩
  rw [← hw1]
  have hbx : Boxes w1 w.heap.size (w.heap.size + 1) A n c B m d := by rw [hw1]; exact Boxes.new w A n c B m d
  have hs1 : w.heap.size + 1 < w1.heap.size := by rw [hw1]; simp
  have hb1 : Below w.heap.size w w1 := by rw [hw1]; exact (by repeat' (first | with_reducible exact Below.refl _ _ | with_reducible refine below_drewN ?_ _ | with_reducible refine Below.drew ?_ | with_reducible refine Below.alloc ?_ ?_ _ | with_reducible refine Below.setCell ?_ ?_ _ | with_reducible refine Below.trans ?_ (Below.mono (by with_reducible assumption) ?_) | (simp; done) | (simp; omega) | omega))
  obtain ⟨n0, n1, r0, r1, f0, f1⟩ := hbx.facts
  have Hbx := Lib.hid hbx
  have Hb1 := Lib.hid hb1
  have Hw1 := Lib.hid hw1
  clear hw1 hb1 hbx
  go_region_held3 (fun w' => w'.cell? ⟨w.heap.size, 0, none⟩ = some (.slice A n c) ∧ w'.cell? ⟨w.heap.size, 1, none⟩ = some (.slice B m d))
    (first | go_keep | ((repeat' apply And.intro) <;> go_keep))
    (first
      | (go_at_call_of 44 (Value.slice A n c)
         refine (cloneB_any A n c xs _ HA.out.len (by omega) (HA.out.lies.below (by first | exact HbB.out | exact Below.drew Hb1.out | exact Hb1.out))).mono ?_
         rintro e wA ⟨vA, rfl, hownA, hbA⟩
         obtain ⟨CA, qA, rfl, _⟩ := Sl8.of_own hownA rfl HA.out.byt
         have HownA := Lib.hid hownA
         have HbxA := Lib.hid (Boxes.below (by first | exact HbxB.out | exact Hbx.out | exact Hbx.out.drew) hbA (by first | omega | (simp; omega)) (by first | omega | (simp; omega)))
         obtain ⟨n0A, n1A, r0A, r1A, f0A, f1A⟩ := HbxA.out.facts
         have hsA : w1.heap.size ≤ wA.heap.size := (by have q1 := hbA.size; first | omega | (simp at q1; omega))
         have HbA : Hid (Below w.heap.size w wA) := (Below.trans (by first | exact HbB.out | exact Below.drew Hb1.out | exact Hb1.out) (hbA.mono (by first | omega | (simp; omega))))
         clear hownA hbA)
      | (go_at_call_of 44 (Value.slice B m d)
         refine (cloneB_any B m d ys _ HB.out.len (by omega) (HB.out.lies.below (by first | exact HbA.out | exact Below.drew Hb1.out | exact Hb1.out))).mono ?_
         rintro e wB ⟨vB, rfl, hownB, hbB⟩
         obtain ⟨CB, qB, rfl, _⟩ := Sl8.of_own hownB rfl HB.out.byt
         have HownB := Lib.hid hownB
         have HbxB := Lib.hid (Boxes.below (by first | exact HbxA.out | exact Hbx.out | exact Hbx.out.drew) hbB (by first | omega | (simp; omega)) (by first | omega | (simp; omega)))
         obtain ⟨n0B, n1B, r0B, r1B, f0B, f1B⟩ := HbxB.out.facts
         have hsB : w1.heap.size ≤ wB.heap.size := (by have q1 := hbB.size; first | omega | (simp at q1; omega))
         have HbB : Hid (Below w.heap.size w wB) := (Below.trans (by first | exact HbA.out | exact Below.drew Hb1.out | exact Hb1.out) (hbB.mono (by first | omega | (simp; omega))))
         have HbB2 := Lib.hid hbB
         clear hownB hbB))
  all_goals
    go_wp2
    refine bodyPost_ret (v := .agg #[.slice CA xs.length qA, .slice CB ys.length qB]) (by simp [results, Try.results35, go_sem, *]) rfl ?_
    have hbB := HbB.out
    have hw := (World.ownsRow.lt HownB.out)
    have hv := (World.ownsRow.lt HownA.out)
    have hszA : w.heap.size + 1 < w1.drew.heap.size := by simp; omega
    refine ⟨_, _, rfl, own_mono (ownsRow_setCell_below (ownsRow_setCell_below (ownsRow_below HownA.out HbB2.out) (a := ⟨w.heap.size + 1, 0, none⟩) hszA _) (a := ⟨w.heap.size + 1, 1, none⟩) hszA _) (by omega),
      own_mono (ownsRow_setCell_below (ownsRow_setCell_below HownB.out (a := ⟨w.heap.size + 1, 0, none⟩) (by simp; omega) _) (a := ⟨w.heap.size + 1, 1, none⟩) (by simp; omega) _) (by omega), ?_, (by repeat' (first | with_reducible exact Below.refl _ _ | with_reducible assumption | with_reducible refine below_drewN ?_ _ | with_reducible refine Below.drew ?_ | with_reducible refine Below.alloc ?_ ?_ _ | with_reducible refine Below.setCell ?_ ?_ _ | with_reducible refine Below.trans ?_ (Below.mono (by with_reducible assumption) ?_) | with_reducible refine below_only ?_ (by with_reducible assumption) ?_ ?_ | (simp; done) | (simp; omega) | omega))⟩
    intro q h1 h2
    have := hv q h1
    have := hw q h2
    omega
end Go.Proofs.Ytbkfdpdcnjecbaa
