/- Contracts: all, Sync, Crash (reference). -/
import Derived.Test.YtbkfdpdcnjecbaaTw
namespace Go.Proofs.Ytbkfdpdcnjecbaa
open Go.RowKit
set_option linter.unusedVariables false

set_option maxHeartbeats 800000 in
theorem allR_any (A B : Option Addr) (n c m d : Nat) (xs ys : List Int) (w : World) (hs : n ≤ 100000 ∧ m ≤ 100000) (hA : Sl8 w A n c xs) (hB : Sl8 w B m d ys) :
    Calls Try.prog 40 #[.agg #[.slice A n c, .slice B m d]] w (PutPost w w.heap.size (xs ++ ys)) := by
  obtain ⟨i0, hi, hz0, hz1, hz2⟩ := info_parts Try.infoByte
  have HA := Lib.hid (hA.lies.reads (size := 1) (by simp [hA.len]))
  have HB := Lib.hid (hB.lies.reads (size := 1) (by simp [hB.len]))
  have Hl1 := Lib.hid hA.len
  have Hl2 := Lib.hid hB.len
  clear hA hB
  go_enter Try.func40, Try.ntmps40
  go_wp2
  obtain ⟨w1, hw1⟩ : ∃ w1 : World, w1 = w.alloc (.cells #[.slice A n c, .slice B m d] 28) := ⟨_, rfl⟩
  rw [← hw1]
  have n0 : w1.cell? ⟨w.heap.size, 0, none⟩ = some (.slice A n c) := by rw [hw1]; simp [go_sem]
  have n1 : w1.cell? ⟨w.heap.size, 1, none⟩ = some (.slice B m d) := by rw [hw1]; simp [go_sem]
  have hb1 : Below w.heap.size w w1 := by rw [hw1]; exact (by repeat' (first | with_reducible exact Below.refl _ _ | with_reducible refine below_drewN ?_ _ | with_reducible refine Below.drew ?_ | with_reducible refine Below.alloc ?_ ?_ _ | with_reducible refine Below.setCell ?_ ?_ _ | with_reducible refine Below.trans ?_ (Below.mono (by with_reducible assumption) ?_) | (simp; done) | (simp; omega) | omega))
  have hs1 : w.heap.size < w1.heap.size := by rw [hw1]; simp
  have Hw1 := Lib.hid hw1
  clear hw1
  go_region_held3 (fun w' => w'.cell? ⟨w.heap.size, 0, none⟩ = some (.slice A n c) ∧ w'.cell? ⟨w.heap.size, 1, none⟩ = some (.slice B m d))
    (first
      | go_keep
      | (refine ⟨?_, ?_⟩ <;> (rw [hg2.cell_far _ (by first | assumption | (simp; omega) | (simp; done)) (by intro e; have := hv1 _ e.symm; simp at this; omega)]; go_keep))
      | (refine ⟨?_, ?_⟩ <;> (rw [hg1.cell_far _ (by first | (simp; omega) | (simp; done)) (by simp [Value.ownBlock])]; go_keep)))
    (first
      | (refine step_append_any _ rfl (.tmp 5) (.tmp 7) 26 rfl w1.heap.size 5 i0 (.int .u8 0) 1 1 Try.underlying26 hi hz0 hz1 hz2 rfl (by omega) v1 n (xs.map (.int .u8)) rfl (by exact hown1) w.heap.size B m d (ys.map (.int .u8)) rfl (HB.out.below (by exact hbel1)) (ints_oneCell .u8 ys) (by unfold maxLen; omega) (by omega) (by have := hg1.size; first | omega | (simp at this; omega)) ?_
         intro v2 w3 hown2 hg2 hat2)
      | (refine step_append_any _ rfl (.const (.slice none 0 0)) (.tmp 4) 26 rfl w1.heap.size 5 i0 (.int .u8 0) 1 1 Try.underlying26 hi hz0 hz1 hz2 rfl (by omega) (.slice none 0 0) 0 [] rfl (World.ownsRow_nil _ _ _ _) w.heap.size A n c (xs.map (.int .u8)) rfl (HA.out.below (by first | exact hb1 | exact Below.drew hb1)) (ints_oneCell .u8 xs) (by unfold maxLen; omega) (by omega) (by first | (simp; done) | (simp; omega)) ?_
         intro v1 w2 hown1 hg1 hat1
         simp only [Nat.zero_add, List.nil_append] at hown1
         have hv1 := own_base hown1
         have hs2 : w.heap.size < w2.heap.size := (by have := hg1.size; simp at this; omega)
         have hbel1 : Below w.heap.size w w2 := Below.grown (Below.drew hb1) hg1 (by first | omega | (simp; omega)) (by intro q hq; simp [Value.ownBlock] at hq)))
  all_goals
    go_wp2
    go_ret
    refine ⟨v2, rfl, ?_, Below.grown hbel1 hg2 (hbel1.size) (fun q hq => by have := hv1 q hq; omega)⟩
    rw [List.length_append, Hl1.out, Hl2.out, List.map_append]
    exact own_mono hown2 (by omega)

/-- What Sync of the reference leaves: the safe bytes in a row of the callee's own. -/
def SyncPost (w : World) (xs : List Int) (e : Ending) (w' : World) : Prop :=
  ∃ A c, e = .returned (.agg #[.slice A xs.length c, .slice none 0 0]) ∧ Sl8 w' A xs.length c xs ∧ w'.ownsRow w.heap.size 5 1 (.slice A xs.length c) xs.length (xs.map (.int .u8)) ∧ Below w.heap.size w w'

set_option maxHeartbeats 800000 in
theorem syncR_any (A B : Option Addr) (n c m d : Nat) (xs ys : List Int) (w : World) (hs : n ≤ 100000 ∧ m ≤ 100000) (hA : Sl8 w A n c xs) (hB : Sl8 w B m d ys) :
    Calls Try.prog 26 #[.agg #[.slice A n c, .slice B m d]] w (SyncPost w (xs ++ ys)) := by
  have HA := Lib.hid hA
  have HB := Lib.hid hB
  clear hA hB
  go_enter Try.func26, Try.ntmps26
  go_wp2_with fail
  refine (allR_any A B n c m d xs ys _ hs (HA.out.below (by repeat' (first | with_reducible exact Below.refl _ _ | with_reducible refine below_drewN ?_ _ | with_reducible refine Below.drew ?_ | with_reducible refine Below.alloc ?_ ?_ _ | with_reducible refine Below.setCell ?_ ?_ _ | with_reducible refine Below.trans ?_ (Below.mono (by with_reducible assumption) ?_) | (simp; done) | (simp; omega) | omega))) (HB.out.below (by repeat' (first | with_reducible exact Below.refl _ _ | with_reducible refine below_drewN ?_ _ | with_reducible refine Below.drew ?_ | with_reducible refine Below.alloc ?_ ?_ _ | with_reducible refine Below.setCell ?_ ?_ _ | with_reducible refine Below.trans ?_ (Below.mono (by with_reducible assumption) ?_) | (simp; done) | (simp; omega) | omega)))).mono ?_
  rintro e w2 hput
  obtain ⟨v2, rfl, hown, hb2⟩ := id hput
  obtain ⟨C, q2, rfl, hC, hCb⟩ := put_slice hput (HA.out.byt.app HB.out.byt)
  have hbx := (Boxes.new w A n c B m d).below hb2 (by simp; omega) (by simp)
  obtain ⟨n0, n1, r0, r1, f0, f1⟩ := hbx.facts
  have Hbx := Lib.hid hbx
  have Hown := Lib.hid hown
  have HC := Lib.hid hC
  have hbw : Below w.heap.size w w2 := (by repeat' (first | with_reducible exact Below.refl _ _ | with_reducible refine below_drewN ?_ _ | with_reducible refine Below.drew ?_ | with_reducible refine Below.alloc ?_ ?_ _ | with_reducible refine Below.setCell ?_ ?_ _ | with_reducible refine Below.trans ?_ (Below.mono (by with_reducible assumption) ?_) | (simp; done) | (simp; omega) | omega))
  have hs2 := hbw.size
  have hCb' : ∀ ad, C = some ad → w.heap.size + 1 < ad.block := fun ad h => by have := hCb ad h; simp at this; omega
  clear hown hC hb2 hput hbx hCb
  generalize xs ++ ys = zs at *
  go_wp2
  refine bodyPost_ret (v := .agg #[.slice C zs.length q2, .slice none 0 0]) (by simp [results, Try.results26, go_sem, *]) rfl ?_
  refine ⟨_, _, rfl, HC.out.box Hbx.out.two _ _, own_mono (ownsRow_setCell_below (ownsRow_setCell_below Hown.out (a := ⟨w.heap.size + 1, 0, none⟩) (by simp) _) (a := ⟨w.heap.size + 1, 1, none⟩) (by simp) _) (by simp only [World.size_alloc]; omega), (by repeat' (first | with_reducible exact Below.refl _ _ | with_reducible assumption | with_reducible refine below_drewN ?_ _ | with_reducible refine Below.drew ?_ | with_reducible refine Below.alloc ?_ ?_ _ | with_reducible refine Below.setCell ?_ ?_ _ | with_reducible refine Below.trans ?_ (Below.mono (by with_reducible assumption) ?_) | with_reducible refine below_only ?_ (by with_reducible assumption) ?_ ?_ | (simp; done) | (simp; omega) | omega))⟩
end Go.Proofs.Ytbkfdpdcnjecbaa
