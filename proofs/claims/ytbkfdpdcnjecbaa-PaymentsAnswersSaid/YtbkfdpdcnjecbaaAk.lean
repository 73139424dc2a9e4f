/- Contract: awake: an order is written, and read behind a crash. -/
import Derived.Test.YtbkfdpdcnjecbaaPl
import Derived.Test.YtbkfdpdcnjecbaaTc
import Derived.Test.YtbkfdpdcnjecbaaTo
import Derived.Test.YtbkfdpdcnjecbaaTt
namespace Go.Proofs.Ytbkfdpdcnjecbaa
open Go.RowKit
set_option linter.unusedVariables false

def o0 : Ord4 := ⟨1, 2, 300, 4⟩
theorem o0_right : rightB o0 = true := by decide
theorem grow_o0 : Grow 0 [o0] := ⟨o0_right, by decide, trivial⟩
theorem aw_write : writeB [] [] o0 = (recB o0, 0) := by
  have e : ordsB [] = ([], []) := rfl
  unfold writeB
  rw [List.append_nil, e]
  have h1 : ¬ o0.n ≤ lastN [] := by decide
  simp [o0_right, h1]
theorem aw_ords : ordsB (recB o0) = ([o0], []) := by
  have := ordsB_all [o0] grow_o0
  rwa [recs_one] at this
theorem aw_five : (ordsB ((recB o0).take 5)).1 = [] := by
  have := ordsB_take [o0] 5 grow_o0
  rw [recs_one] at this
  simpa using this
theorem aw_total : totalB [o0] 2 = 300 := by simp [totalB, o0, wrap64]
theorem aw_sum : sumB [] = 40503 ∧ sumB [0] = 10695 := by decide

set_option maxHeartbeats 1600000 in
set_option maxRecDepth 100000 in
theorem awake_any (w : World) : Calls Try.prog 18 #[] w fun e w' => e = .returned (.bool true) ∧ Below w.heap.size w w' := by
  go_enter Try.func18, Try.ntmps18
  go_wp2_with fail
  refine (writeP_any none none 0 0 0 0 [] [] o0 _ (by omega) (Sl8.nil_ _) (Sl8.nil_ _)).mono ?_
  rintro e w1 ⟨A, n, c, B, m, d, rfl, hA, hB, hb1, _⟩
  rw [aw_write] at hB ⊢
  have hbw1 : Below w.heap.size w w1 := (by repeat' (first | with_reducible exact Below.refl _ _ | with_reducible refine below_drewN ?_ _ | with_reducible refine Below.drew ?_ | with_reducible refine Below.alloc ?_ ?_ _ | with_reducible refine Below.setCell ?_ ?_ _ | with_reducible refine Below.trans ?_ (Below.mono (by with_reducible assumption) ?_) | (simp; done) | (simp; omega) | omega))
  have hs1 : w.heap.size < w1.heap.size := by have := hb1.size; simp at this; omega
  have hg0 : w1.heap[w.heap.size]? = some (.cells #[.int .i64 1, .int .i64 2, .int .i64 300, .int .i64 4] 32 (0, 0)) := (hb1.block w.heap.size (by simp)).trans (heap_alloc_new w _)
  have Hg0 := Lib.hid hg0
  have hlm : n = 0 ∧ m = 28 := ⟨by have := hA.len; simpa using this.symm, by have := hB.len; rw [recB_len] at this; omega⟩
  obtain ⟨rfl, rfl⟩ := hlm
  have HA := Lib.hid hA
  have HB := Lib.hid hB
  clear hA hB hb1 hg0
  go_wp2_with fail
  refine (syncP_any A B 0 c 28 d [] (recB o0) _ (by omega) (HA.out.alloc _) (HB.out.alloc _)).mono ?_
  rintro e w2 ⟨A2, n2, c2, B2, m2, d2, rfl, hA2, hB2, hb2, _⟩
  rw [List.nil_append] at hA2
  have hs2 : w1.heap.size < w2.heap.size := by have := hb2.size; simp at this; omega
  have hT2 : w2.heap[w1.heap.size]? = some (.cells #[.slice A 0 c, .slice B 28 d] 28 (0, 0)) := (hb2.block w1.heap.size (by simp)).trans (heap_alloc_new w1 _)
  have hO2 : w2.heap[w.heap.size]? = some (.cells #[.int .i64 1, .int .i64 2, .int .i64 300, .int .i64 4] 32 (0, 0)) := (hb2.block w.heap.size (by simp; omega)).trans ((Below.heap_alloc w1 _ _ hs1).trans Hg0.out)
  have HA' := Lib.hid ((HA.out.alloc _).below hb2)
  have HB' := Lib.hid ((HB.out.alloc _).below hb2)
  have hlm2 : n2 = 28 ∧ m2 = 0 := ⟨by have := hA2.len; rw [recB_len] at this; omega, by have := hB2.len; simpa using this.symm⟩
  obtain ⟨rfl, rfl⟩ := hlm2
  have HA2 := Lib.hid hA2
  have HB2 := Lib.hid hB2
  have HT2 := Lib.hid hT2
  have HO2 := Lib.hid hO2
  have Hb2 := Lib.hid (show Below w.heap.size w w2 from (by repeat' (first | with_reducible exact Below.refl _ _ | with_reducible assumption | with_reducible refine below_drewN ?_ _ | with_reducible refine Below.drew ?_ | with_reducible refine Below.alloc ?_ ?_ _ | with_reducible refine Below.setCell ?_ ?_ _ | with_reducible refine Below.trans ?_ (Below.mono (by with_reducible assumption) ?_) | with_reducible refine below_only ?_ (by with_reducible assumption) ?_ ?_ | (simp; done) | (simp; omega) | omega)))
  clear hA2 hB2 hT2 hO2 hb2 hbw1
  go_wp2_with fail
  refine (crashP_any A2 B2 28 c2 0 d2 (recB o0) [] 0 _ (by omega) (by omega) HA2.out HB2.out).mono ?_
  rintro e w3 ⟨A3, n3, c3, B3, m3, d3, rfl, hA3, hB3, hb3, _⟩
  rw [List.take_nil, List.append_nil] at hA3
  have hlm3 : n3 = 28 ∧ m3 = 0 := ⟨by have := hA3.len; rw [recB_len] at this; omega, by have := hB3.len; simpa using this.symm⟩
  obtain ⟨rfl, rfl⟩ := hlm3
  have HA3 := Lib.hid hA3
  have HB3 := Lib.hid hB3
  have HT3 := Lib.hid ((hb3.block _ hs2).trans HT2.out)
  have HO3 := Lib.hid ((hb3.block _ (by omega)).trans HO2.out)
  have Hb3 : Hid (Below w2.heap.size w2 w3) := hb3
  have hs3 := hb3.size
  clear hA3 hB3 hb3
  go_wp2_with fail
  refine (ordersP_any A3 B3 28 c3 0 d3 (recB o0) [] _ (by omega) HA3.out HB3.out).mono ?_
  rintro e w4 ⟨v4, rfl, hown4, hb4⟩
  rw [List.append_nil, aw_ords] at hown4 ⊢
  obtain ⟨A4, c4, rfl, hl4, _⟩ := own_slice hown4
  have HL4 := Lib.hid hl4
  have hT4 := (hb4.block w1.heap.size (by omega)).trans HT3.out
  have hO4 := (hb4.block w.heap.size (by omega)).trans HO3.out
  have HO4 := Lib.hid hO4
  have HT4 := Lib.hid hT4
  have t0 : w4.cell? ⟨w1.heap.size, 0, none⟩ = some (.slice A 0 c) := cell_of_row w4 _ 0 _ _ _ hT4
  have t1 : w4.cell? ⟨w1.heap.size, 1, none⟩ = some (.slice B 28 d) := cell_of_row w4 _ 1 _ _ _ hT4
  have Hb4 : Hid (Below w2.heap.size w2 w4) := Hb3.out.trans (hb4.mono hs3)
  have hs4 : w2.heap.size ≤ w4.heap.size := Hb4.out.size
  have HA4 := Lib.hid (HA'.out.below Hb4.out)
  have HB4 := Lib.hid (HB'.out.below Hb4.out)
  clear hown4 hl4 hT4 hO4 hb4
  go_wp2_with fail
  refine (crashP_any A B 0 c 28 d [] (recB o0) 5 _ (by omega) (by omega) HA4.out HB4.out).mono ?_
  rintro e w5 ⟨A5, n5, c5, B5, m5, d5, rfl, hA5, hB5, hb5, _⟩
  rw [List.nil_append, show keepN 5 28 = 5 from by decide] at hA5
  have hlm5 : n5 = 5 ∧ m5 = 0 := ⟨by have := hA5.len; rw [List.length_take, recB_len] at this; omega, by have := hB5.len; simpa using this.symm⟩
  obtain ⟨rfl, rfl⟩ := hlm5
  have HA5 := Lib.hid hA5
  have HB5 := Lib.hid hB5
  have Hb5 := Lib.hid hb5
  have hs5 := hb5.size
  clear hA5 hB5 hb5
  go_wp2_with fail
  refine (ordersP_any A5 B5 5 c5 0 d5 ((recB o0).take 5) [] _ (by omega) HA5.out HB5.out).mono ?_
  rintro e w6 ⟨v6, rfl, hown6, hb6⟩
  rw [List.append_nil, aw_five] at hown6
  obtain ⟨A6, c6, rfl, hl6, _⟩ := own_slice hown6
  have Hb6 : Hid (Below w4.heap.size w4 w6) := Hb5.out.trans (hb6.mono hs5)
  have hs6 : w4.heap.size ≤ w6.heap.size := Hb6.out.size
  have HL6 := Lib.hid (HL4.out.below Hb6.out)
  have hO6 := (Hb6.out.block w.heap.size (by omega)).trans HO4.out
  have o0' : w6.cell? ⟨w.heap.size, 0, none⟩ = some (.int .i64 1) := cell_of_row w6 _ 0 _ _ _ hO6
  have o1' : w6.cell? ⟨w.heap.size, 1, none⟩ = some (.int .i64 2) := cell_of_row w6 _ 1 _ _ _ hO6
  have o2' : w6.cell? ⟨w.heap.size, 2, none⟩ = some (.int .i64 300) := cell_of_row w6 _ 2 _ _ _ hO6
  have o3' : w6.cell? ⟨w.heap.size, 3, none⟩ = some (.int .i64 4) := cell_of_row w6 _ 3 _ _ _ hO6
  have Hbw : Hid (Below w.heap.size w w6) := (Hb2.out.trans (Hb4.out.mono (by omega))).trans (Hb6.out.mono (by omega))
  have hw6 : w.heap.size < w6.heap.size := by omega
  clear hown6 hl6 hO6 hb6 t0 t1
  go_wp2_with fail
  refine (sumP_any none 0 0 [] _ rfl (by decide) (fun _ h => by simp at h) (.inl rfl)).mono ?_
  rintro e w' ⟨rfl, rfl⟩
  rw [aw_sum.1]
  go_wp2_with fail
  refine (sumP_any (some ⟨w6.heap.size, 0, none⟩) 1 1 [0] _ rfl (by decide) (fun b h => by simp at h; omega) (Lies.new w6 5 #[.int .u8 0] 1 _ rfl _ rfl)).mono ?_
  rintro e w' ⟨rfl, rfl⟩
  rw [aw_sum.2]
  go_wp2_with fail
  refine (lists_any A4 (some ⟨w6.heap.size + 1, 0, none⟩) 1 c4 1 1 [o0] [o0] _ rfl rfl (by decide) (by decide) ((HL6.out.alloc _).alloc _) (Lies.new (w6.alloc _) 32 #[.int .i64 1, .int .i64 2, .int .i64 300, .int .i64 4] 1 _ rfl _ (by simp))).mono ?_
  rintro e w7 ⟨rfl, hb7⟩
  rw [decide_eq_true (rfl : [o0] = [o0])]
  have HL7 := Lib.hid (((HL6.out.alloc _).alloc _).below hb7)
  have Hb7 := Lib.hid hb7
  have hs7 : w6.heap.size ≤ w7.heap.size := by have := hb7.size; simp at this; omega
  clear hb7
  go_wp2_with fail
  refine (totalP_any A4 1 c4 [o0] 2 _ rfl (by decide) HL7.out).mono ?_
  rintro e w8 ⟨rfl, hb8⟩
  rw [aw_total]
  go_wp2
  go_ret
  have hbw := Hbw.out
  have hb7 := Hb7.out
  exact ⟨rfl, (by repeat' (first | with_reducible exact Below.refl _ _ | with_reducible assumption | with_reducible refine below_drewN ?_ _ | with_reducible refine Below.drew ?_ | with_reducible refine Below.alloc ?_ ?_ _ | with_reducible refine Below.setCell ?_ ?_ _ | with_reducible refine Below.trans ?_ (Below.mono (by with_reducible assumption) ?_) | with_reducible refine below_only ?_ (by with_reducible assumption) ?_ ?_ | (simp; done) | (simp; omega) | omega))⟩
end Go.Proofs.Ytbkfdpdcnjecbaa
