/- Contracts: Clone, Grow, Concat of bytes (the library's slices). -/
import Derived.Test.YtbkfdpdcnjecbaaP2
import Derived.Outline
import Derived.Lib.AppendZerosOnto
namespace Go.Proofs.Ytbkfdpdcnjecbaa
open Go.RowKit
set_option linter.unusedVariables false

theorem bytes_one (xs : List Int) : ∀ u ∈ xs.map (Value.int .u8), u.oneCell' = true := ints_oneCell .u8 xs

set_option maxHeartbeats 400000 in
theorem cloneB_any (A : Option Addr) (n c : Nat) (xs : List Int) (w : World) (hx : xs.length = n) (hn : n ≤ 1000000) (hA : Lies w A n (xs.map (.int .u8))) :
    Calls Try.prog 44 #[.slice A n c] w (PutPost w w.heap.size xs) := by
  obtain ⟨i0, hi, hz0, hz1, hz2⟩ := info_parts Try.infoByte
  have Hx := Lib.hid hx
  have HA := Lib.hid (hA.reads (size := 1) (by simp [hx]))
  rcases A with _ | ad
  · have hn0 : n = 0 := hA.resolve_right (by rintro ⟨_, _, h, _⟩; cases h)
    subst hn0
    obtain rfl : xs = [] := List.length_eq_zero_iff.1 hx
    clear hx hA Hx HA
    have hnil := fun W : World => Lib.run_eql_slice_nil (P := Try.prog) W 26 5 none 0 c 0 0 Try.underlying26
    go_enter Try.func44, Try.ntmps44
    go_wp2
    go_ret
    exact ⟨_, rfl, World.ownsRow_nil _ _ _ _, Below.refl _ _⟩
  · clear hx hA
    have hnil := fun W : World => Lib.run_eql_slice_nil (P := Try.prog) W 26 5 (some ad) n c 0 0 Try.underlying26
    go_enter Try.func44, Try.ntmps44
    go_wp2_with (at_builtin
                 refine wpList_append_any _ rfl (.tmp 5) (.tmp 6) _ rfl w.heap.size 5 i0 _ 1 1 Try.underlying26 hi hz0 hz1 hz2 rfl (by omega) (.slice (some ⟨w.heap.size, 0, none⟩) 0 0) 0 [] rfl
                   (own_zero w _ _ _ (Nat.le_refl _)) w.heap.size (some ad) n c (xs.map (.int .u8)) rfl (HA.out.alloc (Nat.le_refl _) _) (bytes_one xs) (by simp only [maxLen]; omega) (by omega) (by simp) ?_
                 intro v1 w1 hown1 hg1 hat1)
    go_ret
    refine ⟨v1, rfl, ?_, ?_⟩
    · rw [Hx.out]
      simpa using hown1
    · exact ((Below.refl _ _).alloc (Nat.le_refl _) _).grown hg1 (by simp) (by intro k hk; simp [Value.ownBlock] at hk; omega)

theorem madeZeros (n : Nat) : Builtin.zeroCells #[.int .u8 0] n = Builtin.zeroCells (Value.cells (.int .u8 0)) n := rfl

set_option maxHeartbeats 400000 in
theorem growB_any (k : Nat) (w : World) (hn : k ≤ 2000000) :
    Calls Try.prog 49 #[.slice none 0 0, .int .i64 (k : Int)] w (PutPost w w.heap.size []) := by
  obtain ⟨i0, hi, hz0, hz1, hz2⟩ := info_parts Try.infoByte
  by_cases h0 : k = 0
  · subst h0
    go_enter Try.func49, Try.ntmps49
    go_wp2
    go_ret
    exact ⟨_, rfl, World.ownsRow_nil _ _ _ _, Below.refl _ _⟩
  · have tb : Try.t5.bytes = 1 := by kernel_rfl
    have hf : ¬ 281474976710656 < Builtin.nextslicecap k 0 * 1 := by
      have := growslice_fits (need := k) (old := 0) (bytes := 1) (by omega) (by omega)
      omega
    have key : Hid (PutPost w w.heap.size [] (.returned (.slice (some ⟨w.heap.size, 0, none⟩) 0 (grownCap w k 0 5))) ((w.alloc (Obj.cells (Builtin.zeroCells #[Value.int IntKind.u8 0] k ++ Builtin.zeroCells #[Value.int IntKind.u8 0] (grownCap w k 0 5 - k)) 5)).drew)) := by
      have hGn := grownCap_ge w k 0 5
      have hGm := grownCap_le_maxLen w k 0 5 (by unfold maxLen; omega)
      generalize grownCap w k 0 5 = G at *
      refine ⟨_, rfl, World.ownsRow.drew (World.ownsRow_made w _ G (Nat.le_refl _) hGm ?_), (by repeat' (first | with_reducible exact Below.refl _ _ | with_reducible refine below_drewN ?_ _ | with_reducible refine Below.drew ?_ | with_reducible refine Below.alloc ?_ ?_ _ | with_reducible refine Below.setCell ?_ ?_ _ | with_reducible refine Below.trans ?_ (Below.mono (by with_reducible assumption) ?_) | (simp; done) | (simp; omega) | omega))⟩
      rw [Array.size_append, size_zeroCells, size_zeroCells]
      simp
      omega
    go_enter Try.func49, Try.ntmps49
    go_wp2
    go_ret
    exact key.out

/-- How many bytes the first of two slices have. -/
def len2 (n m : Nat) : Nat → Nat
  | 0 => 0
  | 1 => n
  | _ => n + m
/-- The bytes of the first of two slices. -/
def cat2 (xs ys : List Int) : Nat → List Int
  | 0 => []
  | 1 => [] ++ xs
  | _ => ([] ++ xs) ++ ys

set_option maxHeartbeats 800000 in
theorem concatB_any (g : Nat) (A B : Option Addr) (n c m d : Nat) (xs ys : List Int) (w : World)
    (h0 : w.cell? ⟨g, 0, none⟩ = some (.slice A n c)) (h1 : w.cell? ⟨g, 1, none⟩ = some (.slice B m d)) (hg : g < w.heap.size)
    (hx : xs.length = n) (hy : ys.length = m) (hn : n ≤ 1000000) (hm : m ≤ 1000000) (hA : Lies w A n (xs.map (.int .u8))) (hB : Lies w B m (ys.map (.int .u8))) :
    Calls Try.prog 39 #[.slice (some ⟨g, 0, none⟩) 2 2] w (PutPost w w.heap.size (xs ++ ys)) := by
  obtain ⟨i0, hi, hz0, hz1, hz2⟩ := info_parts Try.infoByte
  have Hx := Lib.hid hx
  have Hy := Lib.hid hy
  have HA := Lib.hid (hA.reads (size := 1) (by simp [hx]))
  have HB := Lib.hid (hB.reads (size := 1) (by simp [hy]))
  clear hx hy hA hB
  go_enter Try.func39, Try.ntmps39
  go_wp2
  go_loop [3, 11] (fun s i => ∃ k : Nat, k ≤ 2 ∧ i = .int .i64 (k : Int) ∧ s = .int .i64 (len2 n m k : Nat)) (fun _ i => 2 - (intOf i).toNat)
  case atStart => exact ⟨0, by omega, rfl, rfl⟩
  case round =>
    obtain ⟨k, hk, rfl, rfl⟩ := hrel
    rcases (show k = 0 ∨ k = 1 ∨ k = 2 by omega) with rfl | rfl | rfl
    · have e1 : len2 n m 0 = 0 := rfl
      rw [e1]
      clear e1
      go_wp2
      go_round
      case rel => exact ⟨1, by omega, rfl, by simp [len2]⟩
      case measure => simp [intOf]
    · have e1 : len2 n m 1 = n := rfl
      rw [e1]
      clear e1
      go_wp2
      go_round
      case rel => exact ⟨2, by omega, rfl, by simp [len2]⟩
      case measure => simp [intOf]
    · have e1 : len2 n m 2 = n + m := rfl
      rw [e1]
      clear e1
      go_wp2_with fail
      refine (growB_any (n + m) w (by omega)).mono ?_
      rintro e w1 ⟨v1, rfl, hown1, hb1⟩
      have Hown1 := Lib.hid hown1
      clear hown1
      go_wp2
      go_loopw [6, 27] (fun v i wr => ∃ k : Nat, k ≤ 2 ∧ i = .int .i64 (k : Int) ∧ PutPost w w.heap.size (cat2 xs ys k) (.returned v) wr) (fun _ i _ => 2 - (intOf i).toNat)
      case atStart => exact ⟨0, by omega, rfl, v1, rfl, Hown1.out, hb1⟩
      case round =>
        obtain ⟨k, hk, rfl, v, hv, hown, hb⟩ := hrel
        injection hv with hv
        subst hv
        have c0 := (hb.cell (p := ⟨g, 0, none⟩) hg).trans h0
        have c1 := (hb.cell (p := ⟨g, 1, none⟩) hg).trans h1
        have Hown := Lib.hid hown
        clear hown
        have hsz := hb.size
        rcases (show k = 0 ∨ k = 1 ∨ k = 2 by omega) with rfl | rfl | rfl
        · go_wp2_with (at_builtin
                       refine wpList_append_any _ rfl (.tmp 31) (.tmp 32) _ rfl w.heap.size 5 i0 _ 1 1 Try.underlying26 hi hz0 hz1 hz2 rfl (by omega) _ 0 [] rfl
                         Hown.out w.heap.size A n c (xs.map (.int .u8)) rfl (HA.out.below hb) (bytes_one xs) (by simp only [maxLen]; omega) (by omega) hsz ?_
                       intro v2 w2 hown2 hg2 hat2)
          go_roundw
          case rel =>
            refine ⟨1, by omega, rfl, v2, rfl, ?_, hb.grown hg2 hsz (own_base Hown.out)⟩
            have e1 : (cat2 xs ys 1).length = 0 + n := by simp [cat2, Hx.out]
            rw [e1]
            exact hown2
          case measure => simp [intOf]
        · have e1 : Hid ((cat2 xs ys 1).length = n) := by show (cat2 xs ys 1).length = n; simp [cat2, Hx.out]
          rw [e1.out] at Hown
          go_wp2_with (at_builtin
                       refine wpList_append_any _ rfl (.tmp 31) (.tmp 32) _ rfl w.heap.size 5 i0 _ 1 1 Try.underlying26 hi hz0 hz1 hz2 rfl (by omega) _ n ((cat2 xs ys 1).map (.int .u8)) rfl
                         Hown.out w.heap.size B m d (ys.map (.int .u8)) rfl (HB.out.below hb) (bytes_one ys) (by simp only [maxLen]; omega) (by omega) hsz ?_
                       intro v2 w2 hown2 hg2 hat2)
          go_roundw
          case rel =>
            refine ⟨2, by omega, rfl, v2, rfl, ?_, hb.grown hg2 hsz (own_base Hown.out)⟩
            have e1 : (cat2 xs ys 2).length = n + m := by simp [cat2, Hx.out, Hy.out]
            have e2 : (cat2 xs ys 2).map (Value.int .u8) = (cat2 xs ys 1).map (Value.int .u8) ++ ys.map (Value.int .u8) := by simp [cat2]
            rw [e1, e2]
            exact hown2
          case measure => simp [intOf]
        · go_wp2
          go_ret
          exact ⟨_, rfl, Hown.out, hb⟩
end Go.Proofs.Ytbkfdpdcnjecbaa
