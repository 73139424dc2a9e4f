/- Contracts: Orders, Repair (payments). -/
import Derived.Test.YtbkfdpdcnjecbaaTw
namespace Go.Proofs.Ytbkfdpdcnjecbaa
open Go.RowKit
set_option linter.unusedVariables false

set_option maxHeartbeats 800000 in
theorem ordersP_any (A B : Option Addr) (n c m d : Nat) (xs ys : List Int) (w : World) (hs : n ≤ 100000 ∧ m ≤ 100000) (hA : Sl8 w A n c xs) (hB : Sl8 w B m d ys) :
    Calls Try.prog 15 #[.agg #[.slice A n c, .slice B m d]] w (OrdsPost w (ordsB (xs ++ ys)).1 (ordsB (xs ++ ys)).2.length) := by
  have HA := Lib.hid hA
  have HB := Lib.hid hB
  clear hA hB
  go_enter Try.func15, Try.ntmps15
  go_wp2_with fail
  refine (concatB_any (w.heap.size + 1) A B n c m d xs ys _ (by simp [go_sem]) (by simp [go_sem]) (by simp) HA.out.len HB.out.len (by omega) (by omega) (HA.out.lies.below (by repeat' (first | with_reducible exact Below.refl _ _ | with_reducible refine below_drewN ?_ _ | with_reducible refine Below.drew ?_ | with_reducible refine Below.alloc ?_ ?_ _ | with_reducible refine Below.setCell ?_ ?_ _ | with_reducible refine Below.trans ?_ (Below.mono (by with_reducible assumption) ?_) | (simp; done) | (simp; omega) | omega))) (HB.out.lies.below (by repeat' (first | with_reducible exact Below.refl _ _ | with_reducible refine below_drewN ?_ _ | with_reducible refine Below.drew ?_ | with_reducible refine Below.alloc ?_ ?_ _ | with_reducible refine Below.setCell ?_ ?_ _ | with_reducible refine Below.trans ?_ (Below.mono (by with_reducible assumption) ?_) | (simp; done) | (simp; omega) | omega)))).mono ?_
  rintro e w1 hput
  obtain ⟨v1, rfl, _, hb1⟩ := id hput
  obtain ⟨C, q, rfl, hC, hCb⟩ := put_slice hput (HA.out.byt.app HB.out.byt)
  have hbw1 : Below w.heap.size w w1 := (by repeat' (first | with_reducible exact Below.refl _ _ | with_reducible refine below_drewN ?_ _ | with_reducible refine Below.drew ?_ | with_reducible refine Below.alloc ?_ ?_ _ | with_reducible refine Below.setCell ?_ ?_ _ | with_reducible refine Below.trans ?_ (Below.mono (by with_reducible assumption) ?_) | (simp; done) | (simp; omega) | omega))
  have hs1 := hbw1.size
  have HC := Lib.hid hC
  have Hlen : Hid ((xs ++ ys).length = n + m) := by
    show (xs ++ ys).length = n + m
    rw [List.length_append, HA.out.len, HB.out.len]
  clear hput hC hb1 hCb
  generalize hxy : xs ++ ys = xy at *
  clear hxy
  go_wp2_with fail
  refine (orders_any C xy.length q xy _ rfl (by rw [Hlen.out]; omega) HC.out.cap HC.out.top HC.out.byt HC.out.lies).mono ?_
  rintro e w2 ⟨v2, rfl, hown2, hb2⟩
  go_wp2
  go_ret2
  exact ⟨v2, rfl, own_mono hown2 hs1, hbw1.trans (hb2.mono hs1)⟩

set_option maxHeartbeats 800000 in
theorem repairP_any (A B : Option Addr) (n c m d : Nat) (xs ys : List Int) (w : World) (hs : n ≤ 100000 ∧ m ≤ 100000) (hA : Sl8 w A n c xs) (hB : Sl8 w B m d ys) :
    Calls Try.prog 20 #[.agg #[.slice A n c, .slice B m d]] w (TapePost w (fixB (xs ++ ys)) []) := by
  have HA := Lib.hid hA
  have HB := Lib.hid hB
  clear hA hB
  go_enter Try.func20, Try.ntmps20
  go_wp2_with fail
  refine (concatB_any (w.heap.size + 2) A B n c m d xs ys _ (by simp [go_sem]) (by simp [go_sem]) (by simp) HA.out.len HB.out.len (by omega) (by omega) (HA.out.lies.below (by repeat' (first | with_reducible exact Below.refl _ _ | with_reducible refine below_drewN ?_ _ | with_reducible refine Below.drew ?_ | with_reducible refine Below.alloc ?_ ?_ _ | with_reducible refine Below.setCell ?_ ?_ _ | with_reducible refine Below.trans ?_ (Below.mono (by with_reducible assumption) ?_) | (simp; done) | (simp; omega) | omega))) (HB.out.lies.below (by repeat' (first | with_reducible exact Below.refl _ _ | with_reducible refine below_drewN ?_ _ | with_reducible refine Below.drew ?_ | with_reducible refine Below.alloc ?_ ?_ _ | with_reducible refine Below.setCell ?_ ?_ _ | with_reducible refine Below.trans ?_ (Below.mono (by with_reducible assumption) ?_) | (simp; done) | (simp; omega) | omega)))).mono ?_
  rintro e w1 hput
  obtain ⟨v1, rfl, _, hb1⟩ := id hput
  obtain ⟨C, q, rfl, hC, hCb⟩ := put_slice hput (HA.out.byt.app HB.out.byt)
  have hbw1 : Below w.heap.size w w1 := (by repeat' (first | with_reducible exact Below.refl _ _ | with_reducible refine below_drewN ?_ _ | with_reducible refine Below.drew ?_ | with_reducible refine Below.alloc ?_ ?_ _ | with_reducible refine Below.setCell ?_ ?_ _ | with_reducible refine Below.trans ?_ (Below.mono (by with_reducible assumption) ?_) | (simp; done) | (simp; omega) | omega))
  have hs1 := hbw1.size
  have HC := Lib.hid hC
  have Hlen : Hid ((xs ++ ys).length = n + m) := by
    show (xs ++ ys).length = n + m
    rw [List.length_append, HA.out.len, HB.out.len]
  obtain ⟨hc1, hf1⟩ := bcell hb1
  have hz1 : w.heap.size + 2 < w1.heap.size := by have := hb1.size; simp at this; omega
  clear hput hC hb1
  generalize hxy : xs ++ ys = xy at *
  clear hxy
  have hr0 : w1.cell? ⟨w.heap.size + 1, 0, none⟩ = some (.slice none 0 0) := by rw [hc1 _ _ (by simp)]; simp [go_sem]
  have hr1 : w1.cell? ⟨w.heap.size + 1, 1, none⟩ = some (.slice none 0 0) := by rw [hc1 _ _ (by simp)]; simp [go_sem]
  have hg0 : w1.frozen? ⟨w.heap.size + 1, 0, none⟩ = false := by rw [hf1 _ _ (by simp)]; simp [go_sem]
  have hg1 : w1.frozen? ⟨w.heap.size + 1, 1, none⟩ = false := by rw [hf1 _ _ (by simp)]; simp [go_sem]
  clear hc1 hf1
  go_wp2_with fail
  refine (orders_any C xy.length q xy _ rfl (by rw [Hlen.out]; omega) HC.out.cap HC.out.top HC.out.byt HC.out.lies).mono ?_
  rintro e w2 ⟨v2, rfl, hown2, hb2⟩
  have hr0 := (hb2.cell (p := ⟨w.heap.size + 1, 0, none⟩) (by simp; omega)).trans hr0
  have hr1 := (hb2.cell (p := ⟨w.heap.size + 1, 1, none⟩) (by simp; omega)).trans hr1
  have hg0 := (hb2.frozen (p := ⟨w.heap.size + 1, 0, none⟩) (by simp; omega)).trans hg0
  have hg1 := (hb2.frozen (p := ⟨w.heap.size + 1, 1, none⟩) (by simp; omega)).trans hg1
  have hle := ordsB_len xy
  have hcap := HC.out.cap
  have htop := HC.out.top
  have hxl : xy.length ≤ 200000 := by rw [Hlen.out]; omega
  unfold maxLen at htop
  have HC2 := Lib.hid ((HC.out.below (hb2)).take (xy.length - (ordsB xy).2.length) (by omega))
  have Hfix : Hid (fixB xy = xy.take (xy.length - (ordsB xy).2.length)) := rfl
  generalize fixB xy = fx at *
  generalize (ordsB xy).2.length = rl at *
  generalize xy.length = xl at *
  have hi1 : (0 : Int) ≤ (xl : Int) - (rl : Int) := by omega
  have hi2 : (xl : Int) - (rl : Int) ≤ (q : Int) := by omega
  have hi3 : ((xl : Int) - (rl : Int)).toNat = xl - rl := by omega
  go_wp2
  refine bodyPost_ret (v := .agg #[.slice C (xl - rl) q, .slice none 0 0]) (by simp [results, Try.results20, go_sem, *]) rfl ?_
  refine ⟨_, _, _, _, _, _, rfl, ?_, Sl8.nil_ _, (by repeat' (first | with_reducible exact Below.refl _ _ | with_reducible refine below_drewN ?_ _ | with_reducible refine Below.drew ?_ | with_reducible refine Below.alloc ?_ ?_ _ | with_reducible refine Below.setCell ?_ ?_ _ | with_reducible refine Below.trans ?_ (Below.mono (by with_reducible assumption) ?_) | (simp; done) | (simp; omega) | omega)), fun ad h => (by have := hCb ad h; simp at this; omega), fun ad h => by cases h⟩
  rw [Hfix.out]
  exact (HC2.out.far (fun ad h => by have := hCb ad h; simp at this ⊢; omega) _).far (fun ad h => by have := hCb ad h; simp at this ⊢; omega) _
end Go.Proofs.Ytbkfdpdcnjecbaa
