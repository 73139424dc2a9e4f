/- Contracts: Repair, Write (reference). -/
import Derived.Test.YtbkfdpdcnjecbaaRo
namespace Go.Proofs.Ytbkfdpdcnjecbaa
open Go.RowKit
set_option linter.unusedVariables false

set_option maxHeartbeats 800000 in
theorem repairR_any (A B : Option Addr) (n c m d : Nat) (xs ys : List Int) (w : World) (hs : n ≤ 100000 ∧ m ≤ 100000) (hA : Sl8 w A n c xs) (hB : Sl8 w B m d ys) :
    Calls Try.prog 29 #[.agg #[.slice A n c, .slice B m d]] w (TapePost w (fixB (xs ++ ys)) []) := by
  have HA := Lib.hid hA
  have HB := Lib.hid hB
  clear hA hB
  go_enter Try.func29, Try.ntmps29
  go_wp2_with fail
  refine (ordersR_any A B n c m d xs ys _ hs (HA.out.below (by repeat' (first | with_reducible exact Below.refl _ _ | with_reducible refine below_drewN ?_ _ | with_reducible refine Below.drew ?_ | with_reducible refine Below.alloc ?_ ?_ _ | with_reducible refine Below.setCell ?_ ?_ _ | with_reducible refine Below.trans ?_ (Below.mono (by with_reducible assumption) ?_) | (simp; done) | (simp; omega) | omega))) (HB.out.below (by repeat' (first | with_reducible exact Below.refl _ _ | with_reducible refine below_drewN ?_ _ | with_reducible refine Below.drew ?_ | with_reducible refine Below.alloc ?_ ?_ _ | with_reducible refine Below.setCell ?_ ?_ _ | with_reducible refine Below.trans ?_ (Below.mono (by with_reducible assumption) ?_) | (simp; done) | (simp; omega) | omega)))).mono ?_
  rintro e w1 ⟨v1, rfl, _, hb1⟩
  have hbx1 := (Boxes.new w A n c B m d).below hb1 (by simp; omega) (by simp)
  have hbw1 : Below w.heap.size w w1 := (by repeat' (first | with_reducible exact Below.refl _ _ | with_reducible refine below_drewN ?_ _ | with_reducible refine Below.drew ?_ | with_reducible refine Below.alloc ?_ ?_ _ | with_reducible refine Below.setCell ?_ ?_ _ | with_reducible refine Below.trans ?_ (Below.mono (by with_reducible assumption) ?_) | (simp; done) | (simp; omega) | omega))
  have hs1 : w.heap.size + 1 < w1.heap.size := by have := hb1.size; simp at this; omega
  obtain ⟨n0, n1, r0, r1, f0, f1⟩ := hbx1.facts
  have Hbx1 := Lib.hid hbx1
  have Hbw1 := Lib.hid hbw1
  have HA1 := Lib.hid (HA.out.below hbw1)
  have HB1 := Lib.hid (HB.out.below hbw1)
  have Hlen : Hid ((xs ++ ys).length = n + m) := by
    show (xs ++ ys).length = n + m
    rw [List.length_append, HA.out.len, HB.out.len]
  have hle := ordsB_len (xs ++ ys)
  have Hbyt := Lib.hid (HA.out.byt.app HB.out.byt)
  clear hb1 hbx1 hbw1
  go_wp2_with fail
  refine (allR_any A B n c m d xs ys _ hs HA1.out HB1.out).mono ?_
  rintro e w2 hput
  obtain ⟨v2, rfl, hown, hb2⟩ := id hput
  obtain ⟨C, q, rfl, hC, hCb⟩ := put_slice hput Hbyt.out
  have hbx2 := Hbx1.out.below hb2 (by omega) (by omega)
  have Hbx2 := Lib.hid hbx2
  obtain ⟨n0', n1', r0', r1', f0', f1'⟩ := hbx2.facts
  have hcap := hC.cap
  have htop := hC.top
  have hbw2 : Below w.heap.size w w2 := Hbw1.out.trans (hb2.mono (by omega))
  have hs2 := hb2.size
  unfold maxLen at htop
  have HC2 := Lib.hid (hC.take ((xs ++ ys).length - (ordsB (xs ++ ys)).2.length) (by omega))
  have Hfix : Hid (fixB (xs ++ ys) = (xs ++ ys).take ((xs ++ ys).length - (ordsB (xs ++ ys)).2.length)) := rfl
  have HCb := Lib.hid hCb
  clear hput hown hC hCb hbx2 hb2
  generalize hxy : xs ++ ys = xy at *
  have hxl : xy.length ≤ 200000 := by rw [Hlen.out]; omega
  clear hxy
  generalize fixB xy = fx at *
  generalize (ordsB xy).2.length = rl at *
  generalize xy.length = xl at *
  have hi1 : (0 : Int) ≤ (xl : Int) - (rl : Int) := by omega
  have hi2 : (xl : Int) - (rl : Int) ≤ (q : Int) := by omega
  have hi3 : ((xl : Int) - (rl : Int)).toNat = xl - rl := by omega
  go_wp2
  refine bodyPost_ret (v := .agg #[.slice C (xl - rl) q, .slice none 0 0]) (by simp [results, Try.results29, go_sem, *]) rfl ?_
  refine ⟨_, _, _, _, _, _, rfl, ?_, Sl8.nil_ _, (by repeat' (first | with_reducible exact Below.refl _ _ | with_reducible assumption | with_reducible refine below_drewN ?_ _ | with_reducible refine Below.drew ?_ | with_reducible refine Below.alloc ?_ ?_ _ | with_reducible refine Below.setCell ?_ ?_ _ | with_reducible refine Below.trans ?_ (Below.mono (by with_reducible assumption) ?_) | with_reducible refine below_only ?_ (by with_reducible assumption) ?_ ?_ | (simp; done) | (simp; omega) | omega)), fun ad h => (by have := HCb.out ad h; omega), fun ad h => by cases h⟩
  rw [Hfix.out]
  exact HC2.out.box Hbx2.out.two _ _
end Go.Proofs.Ytbkfdpdcnjecbaa
