/- Contract: Crash (reference). -/
import Derived.Test.YtbkfdpdcnjecbaaTw
namespace Go.Proofs.Ytbkfdpdcnjecbaa
open Go.RowKit
set_option linter.unusedVariables false

set_option maxHeartbeats 1600000 in
theorem crashR_any (A B : Option Addr) (n c m d : Nat) (xs ys : List Int) (k : Int) (w : World) (hs : n ≤ 100000 ∧ m ≤ 100000) (hk : -9223372036854775808 ≤ k ∧ k ≤ 9223372036854775807) (hA : Sl8 w A n c xs) (hB : Sl8 w B m d ys) :
    Calls Try.prog 30 #[.agg #[.slice A n c, .slice B m d], .int .i64 k] w (TapePost w (xs ++ ys.take (keepN k m)) []) := by
  obtain ⟨i0, hi, hz0, hz1, hz2⟩ := info_parts Try.infoByte
  have HA := Lib.hid hA
  have hmd : (m : Int) ≤ (d : Int) := by have := hB.cap; omega
  obtain ⟨zs, hzs⟩ : ∃ zs, ys.take (keepN k m) = zs := ⟨_, rfl⟩
  rw [hzs]
  have HBk := Lib.hid (hB.take (keepN k m) (keepN_le k m))
  rw [hzs] at HBk
  have Hkn : Hid (keepN k m = (min (max k 0) (m : Int)).toNat) := rfl
  clear hzs hB hA
  have hcase : (k < 0 ∧ keepN k m = 0) ∨ (∃ q : Nat, k = (q : Int) ∧ (q : Int) < (m : Int) ∧ keepN k m = q) ∨ (k = (m : Int) ∧ keepN k m = m) ∨ ((m : Int) < k ∧ 0 ≤ k ∧ keepN k m = m) := by
    have := Hkn.out
    rcases (show k < 0 ∨ (0 ≤ k ∧ k < (m : Int)) ∨ k = (m : Int) ∨ (m : Int) < k by omega) with h1 | ⟨h1, h2⟩ | h1 | h1
    · exact .inl ⟨h1, by omega⟩
    · exact .inr (.inl ⟨k.toNat, by omega, by omega, by omega⟩)
    · exact .inr (.inr (.inl ⟨h1, by omega⟩))
    · exact .inr (.inr (.inr ⟨h1, by omega, by omega⟩))
  clear Hkn
  rcases hcase with ⟨h1, e⟩ | ⟨q, rfl, h1, e⟩ | ⟨rfl, e⟩ | ⟨h1, h0, e⟩
  all_goals
    try (have hqd : (q : Int) ≤ (d : Int) := by omega)
    try (have hkm : k < (m : Int) := by omega)
    try (have hq0 : (0 : Int) ≤ (q : Int) := by omega)
    have hm0 : (0 : Int) ≤ (m : Int) := by omega
    rw [e] at HBk
    clear e
    go_enter Try.func30, Try.ntmps30
    go_wp2_with fail
    all_goals (try (have h0q : q = 0 := (by omega); rw [h0q] at HBk; clear h0q))
    all_goals (try (have h0m : m = 0 := (by omega); rw [h0m] at HBk; clear h0m))
    all_goals
      obtain ⟨w1, hw1⟩ : ∃ w1 : World, w1 = (w.alloc (.cells #[.slice A n c, .slice B m d] 28)).alloc (.cells #[.slice none 0 0, .slice none 0 0] 28) := ⟨_, rfl⟩
      rw [← hw1]
      have hbx : Boxes w1 w.heap.size (w.heap.size + 1) A n c B m d := by rw [hw1]; exact Boxes.new w A n c B m d
      have hs1 : w.heap.size + 1 < w1.heap.size := by rw [hw1]; simp
      have hb1 : Below w.heap.size w w1 := by rw [hw1]; exact (by repeat' (first | with_reducible exact Below.refl _ _ | with_reducible refine below_drewN ?_ _ | with_reducible refine Below.drew ?_ | with_reducible refine Below.alloc ?_ ?_ _ | with_reducible refine Below.setCell ?_ ?_ _ | with_reducible refine Below.trans ?_ (Below.mono (by with_reducible assumption) ?_) | (simp; done) | (simp; omega) | omega))
      obtain ⟨n0, n1, r0, r1, f0, f1⟩ := hbx.facts
      have Hbx := Lib.hid hbx
      have Hb1 := Lib.hid hb1
      have Hw1 := Lib.hid hw1
      have HAr := Lib.hid (HA.out.lies.reads (size := 1) (by simp [HA.out.len]))
      have HBr := Lib.hid (HBk.out.lies.reads (size := 1) (by simp [HBk.out.len]))
      clear hw1 hb1 hbx
      go_region_held3 (fun w' => w'.cell? ⟨w.heap.size, 0, none⟩ = some (.slice A n c) ∧ w'.cell? ⟨w.heap.size, 1, none⟩ = some (.slice B m d))
        (first | go_keep | ((repeat' apply And.intro) <;> go_keep))
        (first
          | (refine step_append_any _ rfl (.tmp 13) (.tmp 17) 26 rfl w1.heap.size 5 i0 (.int .u8 0) 1 1 Try.underlying26 hi hz0 hz1 hz2 rfl (by omega) v1 n (xs.map (.int .u8)) rfl (by exact Hown1.out) w.heap.size B _ d (zs.map (.int .u8)) rfl (HBr.out.below (by exact HbelA.out)) (ints_oneCell .u8 zs) (by unfold maxLen; omega) (by omega) (by exact hs2) ?_
             intro v2 w3 hown2 hg2 hat2
             have hown2' : w3.ownsRow w1.heap.size 5 1 v2 (xs ++ zs).length ((xs ++ zs).map (.int .u8)) := (by
               rw [List.length_append, HA.out.len, HBk.out.len, List.map_append]
               exact hown2)
             obtain ⟨C2, q2, rfl, hS2, hSb⟩ := Sl8.of_own' hown2' rfl (HA.out.byt.app HBk.out.byt)
             have HSb := Lib.hid hSb
             have HS2 := Lib.hid hS2
             have HbxB : Hid (Boxes w3 w.heap.size (w.heap.size + 1) A n c B m d) := ⟨(hg2.block w.heap.size (by omega) (by intro e; have := hv1 _ e.symm; omega)).trans HbxA.out.one, (hg2.block (w.heap.size + 1) (by omega) (by intro e; have := hv1 _ e.symm; omega)).trans HbxA.out.two⟩
             obtain ⟨n0B, n1B, r0B, r1B, f0B, f1B⟩ := HbxB.out.facts
             have HbelB : Hid (Below w.heap.size w w3) := Below.grown HbelA.out hg2 (by omega) (by intro q hq; have := hv1 q hq; omega)
             clear hown2 hown2' hg2 hS2 hSb)
          | (refine step_append_any _ rfl (.const (.slice none 0 0)) (.tmp 12) 26 rfl w1.heap.size 5 i0 (.int .u8 0) 1 1 Try.underlying26 hi hz0 hz1 hz2 rfl (by omega) (.slice none 0 0) 0 [] rfl (World.ownsRow_nil _ _ _ _) w.heap.size A n c (xs.map (.int .u8)) rfl (HAr.out.below (by first | exact Hb1.out | exact Below.drew Hb1.out)) (ints_oneCell .u8 xs) (by unfold maxLen; omega) (by omega) (by first | (simp; done) | (simp; omega)) ?_
             intro v1 w2 hown1 hg1 hat1
             simp only [Nat.zero_add, List.nil_append] at hown1
             have hv1 := own_base hown1
             have hs2 : w1.heap.size ≤ w2.heap.size := (by have := hg1.size; simp at this; omega)
             have HbelA : Hid (Below w.heap.size w w2) := Below.grown (Below.drew Hb1.out) hg1 (by first | omega | (simp; omega)) (by intro q hq; simp [Value.ownBlock] at hq)
             have HbxA : Hid (Boxes w2 w.heap.size (w.heap.size + 1) A n c B m d) := ⟨(hg1.block w.heap.size (by first | omega | (simp; omega)) (by simp [Value.ownBlock])).trans Hbx.out.one, (hg1.block (w.heap.size + 1) (by first | omega | (simp; omega)) (by simp [Value.ownBlock])).trans Hbx.out.two⟩
             obtain ⟨n0A, n1A, r0A, r1A, f0A, f1A⟩ := HbxA.out.facts
             have Hown1 := Lib.hid hown1
             clear hown1 hg1))
      all_goals
        go_wp2
        refine bodyPost_ret (v := .agg #[.slice C2 (xs ++ zs).length q2, .slice none 0 0]) (by simp [results, Try.results30, go_sem, *]) rfl ?_
        have hbB := HbelB.out
        refine ⟨_, _, _, _, _, _, rfl, ?_, Sl8.nil_ _, (by repeat' (first | with_reducible exact Below.refl _ _ | with_reducible assumption | with_reducible refine below_drewN ?_ _ | with_reducible refine Below.drew ?_ | with_reducible refine Below.alloc ?_ ?_ _ | with_reducible refine Below.setCell ?_ ?_ _ | with_reducible refine Below.trans ?_ (Below.mono (by with_reducible assumption) ?_) | with_reducible refine below_only ?_ (by with_reducible assumption) ?_ ?_ | (simp; done) | (simp; omega) | omega)), fun ad h => (by have := HSb.out ad h; omega), fun ad h => by cases h⟩
        have h1 := HS2.out.box HbxB.out.two (.slice C2 (xs ++ zs).length q2) (.slice none 0 0)
        simpa using h1
end Go.Proofs.Ytbkfdpdcnjecbaa
