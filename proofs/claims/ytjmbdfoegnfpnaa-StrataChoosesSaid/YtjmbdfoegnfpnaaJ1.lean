/- Contracts: what lies outside limits (strata), the same of the reference (all), and whether a number is that of a farm. -/
import Derived.Test.YtjmbdfoegnfpnaaD2
import Derived.Test.YtjmbdfoegnfpnaaQ
namespace Go.Proofs.Ytjmbdfoegnfpnaa
open Go.RowKit
set_option linter.unusedVariables false
set_option linter.unusedSimpArgs false

/-- Outside of limits. -/
def outP (lo hi x : Int) : Bool := decide (x < lo) || decide (hi < x)
theorem outside_any (lo hi : Int) (w : World) : Calls Try.prog 34 #[.int .i64 lo, .int .i64 hi] w fun e w' => e = .returned (.func (.func 49) #[] #[.pointer (some ⟨w.heap.size, 0, none⟩), .pointer (some ⟨w.heap.size + 1, 0, none⟩)]) ∧ w' = (w.alloc (.cells #[.int .i64 lo] 3)).alloc (.cells #[.int .i64 hi] 3) := by
  go_enter Try.func34, Try.ntmps34
  go_wp2
  go_ret
  exact ⟨by simp, rfl⟩
/-- The two limits of a function that tells what lies outside. -/
structure Lim (w : World) (b0 b1 : Nat) (lo hi : Int) : Prop where
  c0 : w.cell? ⟨b0, 0, none⟩ = some (.int .i64 lo)
  c1 : w.cell? ⟨b1, 0, none⟩ = some (.int .i64 hi)
theorem Lim.new (w : World) (lo hi : Int) : Lim ((w.alloc (.cells #[.int .i64 lo] 3)).alloc (.cells #[.int .i64 hi] 3)) w.heap.size (w.heap.size + 1) lo hi := by
  have h0 : ((w.alloc (.cells #[.int .i64 lo] 3)).alloc (.cells #[.int .i64 hi] 3)).heap[w.heap.size]? = some (.cells #[.int .i64 lo] 3 (0, 0)) := (Below.heap_alloc _ _ _ (by simp)).trans (heap_alloc_new w _)
  have h1 : ((w.alloc (.cells #[.int .i64 lo] 3)).alloc (.cells #[.int .i64 hi] 3)).heap[w.heap.size + 1]? = some (.cells #[.int .i64 hi] 3 (0, 0)) := by have := heap_alloc_new (w.alloc (.cells #[.int .i64 lo] 3)) (.cells #[.int .i64 hi] 3); simpa using this
  exact ⟨cell_of_row _ _ 0 _ _ _ h0, cell_of_row _ _ 0 _ _ _ h1⟩
theorem outside1_any (lo hi x : Int) (b0 b1 : Nat) (w : World) (h : Lim w b0 b1 lo hi) : Calls Try.prog 49 #[.int .i64 x, .pointer (some ⟨b0, 0, none⟩), .pointer (some ⟨b1, 0, none⟩)] w fun e w' => e = .returned (.bool (outP lo hi x)) ∧ w' = w := by
  have h0 := h.c0
  have h1 := h.c1
  by_cases c1 : x < lo
  · have hr : outP lo hi x = true := by simp [outP, c1]
    rw [hr]
    clear hr
    go_enter Try.func49, Try.ntmps49
    go_wp2
    go_ret
    exact ⟨rfl, rfl⟩
  · by_cases c2 : hi < x
    · have hr : outP lo hi x = true := by simp [outP, c2]
      rw [hr]
      clear hr
      go_enter Try.func49, Try.ntmps49
      go_wp2
      go_ret
      exact ⟨rfl, rfl⟩
    · have hr : outP lo hi x = false := by simp [outP, c1, c2]
      rw [hr]
      clear hr
      go_enter Try.func49, Try.ntmps49
      go_wp2
      go_ret
      exact ⟨rfl, rfl⟩
theorem any_take_out {l : List Int} {p : Int → Bool} {k : Nat} (hk : k < l.length) (h : (l.take k).any p = false) (hp : p l[k] = false) : (l.take (k + 1)).any p = false := by
  rw [List.take_succ_eq_append_getElem hk, List.any_append, h]
  simp [hp]

set_option maxHeartbeats 1000000 in
theorem indexOut_any (lo hi : Int) (b0 b1 : Nat) (A : Option Addr) (n c : Nat) (l : List Int) (w : World) (h : Lim w b0 b1 lo hi) (hA : Sl w A c (l.map (.int .i64))) (hn : l.length = n) :
    Calls Try.prog 48 #[.slice A n c, .func (.func 49) #[] #[.pointer (some ⟨b0, 0, none⟩), .pointer (some ⟨b1, 0, none⟩)]] w fun e w' => ∃ k : Int, e = .returned (.int .i64 k) ∧ decide (k ≥ 0) = l.any (outP lo hi) ∧ w' = w := by
  have hn1 := Nat.le_trans hA.cap hA.top
  rw [List.length_map] at hn1
  unfold maxLen at hn1
  have HA := Lib.hid hA
  have Hn := Lib.hid hn
  have HO := Lib.hid (fun x => outside1_any lo hi x b0 b1 w h)
  have hn2 : n ≤ 9223372036854775807 := by omega
  clear hA hn h
  go_enter Try.func48, Try.ntmps48
  go_upto_region 2 with fail
  go_loop [5, 8] (fun _ i => ∃ k : Nat, k ≤ n ∧ i = .int .i64 (k : Int) ∧ Hid ((l.take k).any (outP lo hi) = false)) (fun _ i => n - (intOf i).toNat)
  case atStart => exact ⟨0, Nat.zero_le _, rfl, Lib.hid (by simp)⟩
  case round =>
    obtain ⟨k, hk, rfl, Hno⟩ := hrel
    by_cases hkn : k < n
    · have hkl : k < l.length := by have := Hn.out; omega
      obtain ⟨b, off, rfl, hb, ck⟩ := HA.out.at k hkl
      have HOk := Lib.hid (HO.out l[k])
      have Hs := Lib.hid (fun hp => any_take_out hkl Hno.out (p := outP lo hi) hp)
      have Hy : Hid (outP lo hi l[k] = true → l.any (outP lo hi) = true) := Lib.hid (fun hp => List.any_eq_true.2 ⟨l[k], List.getElem_mem hkl, hp⟩)
      generalize l[k] = y at *
      have hkn' : (k : Int) < (n : Int) := by omega
      cases hq : outP lo hi y with
      | true =>
        rw [hq] at HOk
        have Hall := Lib.hid (Hy.out hq)
        clear hq Hs Hy HO
        go_wp2_with (go_at_call 49; refine HOk.out.mono ?_; rintro e w' ⟨rfl, rfl⟩)
        go_ret
        exact ⟨_, rfl, by rw [Hall.out]; simp, rfl⟩
      | false =>
        rw [hq] at HOk
        have Hnx := Lib.hid (Hs.out hq)
        clear hq Hs Hy
        go_wp2_with (go_at_call 49; refine HOk.out.mono ?_; rintro e w' ⟨rfl, rfl⟩)
        go_round
        case rel => exact ⟨k + 1, by omega, by go_num, Hnx⟩
        case measure => simp [intOf]; omega
    · have hkn' : ¬ (k : Int) < (n : Int) := by omega
      have Hall : Hid (l.any (outP lo hi) = false) := Lib.hid (by have := Hno.out; rwa [List.take_of_length_le (by have := Hn.out; omega)] at this)
      go_wp2
      go_ret
      exact ⟨_, rfl, by rw [Hall.out]; simp, rfl⟩
theorem containsOut_any (lo hi : Int) (b0 b1 : Nat) (A : Option Addr) (n c : Nat) (l : List Int) (w : World) (h : Lim w b0 b1 lo hi) (hA : Sl w A c (l.map (.int .i64))) (hn : l.length = n) :
    Calls Try.prog 33 #[.slice A n c, .func (.func 49) #[] #[.pointer (some ⟨b0, 0, none⟩), .pointer (some ⟨b1, 0, none⟩)]] w fun e w' => e = .returned (.bool (l.any (outP lo hi))) ∧ w' = w := by
  have HI := Lib.hid (indexOut_any lo hi b0 b1 A n c l w h hA hn)
  clear h hA hn
  generalize l.any (outP lo hi) = r at *
  go_enter Try.func33, Try.ntmps33
  go_wp2_with (go_at_call 48; refine HI.out.mono ?_; rintro e w' ⟨k, rfl, hk, rfl⟩; subst hk; clear HI)
  go_ret
  exact ⟨rfl, rfl⟩
theorem farm_any (x : Int) (w : World) : Calls Try.prog 36 #[.int .i64 x] w fun e w' => e = .returned (.bool (!outP 1 60 x)) ∧ w' = w := by
  by_cases c1 : 1 ≤ x
  · by_cases c2 : x ≤ 60
    · have hr : (!outP 1 60 x) = true := by simp [outP]; omega
      rw [hr]
      clear hr
      go_enter Try.func36, Try.ntmps36
      go_wp2
      go_ret
      exact ⟨rfl, rfl⟩
    · have hr : (!outP 1 60 x) = false := by simp [outP]; omega
      rw [hr]
      clear hr
      go_enter Try.func36, Try.ntmps36
      go_wp2
      go_ret
      exact ⟨rfl, rfl⟩
  · have hr : (!outP 1 60 x) = false := by simp [outP]; omega
    rw [hr]
    clear hr
    go_enter Try.func36, Try.ntmps36
    go_wp2
    go_ret
    exact ⟨rfl, rfl⟩

set_option maxHeartbeats 1000000 in
theorem all_any (lo hi : Int) (A : Option Addr) (n c : Nat) (l : List Int) (w : World) (hA : Sl w A c (l.map (.int .i64))) (hn : l.length = n) :
    Calls Try.prog 35 #[.slice A n c, .int .i64 lo, .int .i64 hi] w fun e w' => e = .returned (.bool (!l.any (outP lo hi))) ∧ w' = w := by
  have hn1 := Nat.le_trans hA.cap hA.top
  rw [List.length_map] at hn1
  unfold maxLen at hn1
  have HA := Lib.hid hA
  have Hn := Lib.hid hn
  have hn2 : n ≤ 9223372036854775807 := by omega
  clear hA hn
  go_enter Try.func35, Try.ntmps35
  go_upto_region 2 with fail
  go_loop [7] (fun i => ∃ k : Nat, k ≤ n ∧ i = .int .i64 (k : Int) ∧ Hid ((l.take k).any (outP lo hi) = false)) (fun i => n - (intOf i).toNat)
  case atStart => exact ⟨0, Nat.zero_le _, rfl, Lib.hid (by simp)⟩
  case round =>
    obtain ⟨k, hk, rfl, Hno⟩ := hrel
    by_cases hkn : k < n
    · have hkl : k < l.length := by have := Hn.out; omega
      obtain ⟨b, off, rfl, hb, ck⟩ := HA.out.at k hkl
      have Hs := Lib.hid (fun hp => any_take_out hkl Hno.out (p := outP lo hi) hp)
      have Hy : Hid (outP lo hi l[k] = true → l.any (outP lo hi) = true) := Lib.hid (fun hp => List.any_eq_true.2 ⟨l[k], List.getElem_mem hkl, hp⟩)
      generalize l[k] = y at *
      have hkn' : (k : Int) < (n : Int) := by omega
      by_cases c1 : y < lo
      · have Hall := Lib.hid (Hy.out (by simp [outP, c1]))
        clear Hs Hy
        go_wp2
        go_ret
        exact ⟨by rw [Hall.out]; rfl, rfl⟩
      · by_cases c2 : hi < y
        · have Hall := Lib.hid (Hy.out (by simp [outP, c2]))
          clear Hs Hy
          go_wp2
          go_ret
          exact ⟨by rw [Hall.out]; rfl, rfl⟩
        · have Hnx := Lib.hid (Hs.out (by simp [outP, c1, c2]))
          clear Hs Hy
          go_wp2
          go_round
          case rel => exact ⟨k + 1, by omega, by go_num, Hnx⟩
          case measure => simp [intOf]; omega
    · have hkn' : ¬ (k : Int) < (n : Int) := by omega
      have Hall : Hid (l.any (outP lo hi) = false) := Lib.hid (by have := Hno.out; rwa [List.take_of_length_le (by have := Hn.out; omega)] at this)
      go_wp2
      go_ret
      exact ⟨by rw [Hall.out]; rfl, rfl⟩
end Go.Proofs.Ytjmbdfoegnfpnaa
