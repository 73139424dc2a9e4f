/- Contracts: Ints, Has (the reference of draw). -/
import Derived.Test.YtjmbdfoegnfpnaaDU
import Derived.Test.YtjmbdfoegnfpnaaDB
namespace Go.Proofs.Ytjmbdfoegnfpnaa
open Go.RowKit
set_option linter.unusedVariables false
set_option linter.unusedSimpArgs false

set_option maxHeartbeats 1000000 in
theorem ints_any (A B : Option Addr) (n m c e : Nat) (l k : List Int) (w : World) (hA : Sl w A c (l.map (.int .i64))) (hB : Sl w B e (k.map (.int .i64))) (hn : l.length = n) (hm : k.length = m) :
    Calls Try.prog 26 #[.slice A n c, .slice B m e] w fun e w' => e = .returned (.bool (decide (l = k))) ∧ Below w.heap.size w w' := by
  have hn1 := Nat.le_trans hA.cap hA.top
  rw [List.length_map] at hn1
  unfold maxLen at hn1
  have HA := Lib.hid hA
  have HB := Lib.hid hB
  have Hn := Lib.hid hn
  have Hm := Lib.hid hm
  clear hA hB
  obtain ⟨x, hx⟩ : ∃ x, decide (l = k) = x := ⟨_, rfl⟩
  rw [hx]
  have Hx := Lib.hid hx
  clear hx
  by_cases hnm : n = m
  · subst hnm
    have hn2 : n ≤ 9223372036854775807 := by omega
    clear hn hm
    go_enter Try.func26, Try.ntmps26
    go_upto_region 4 with fail
    go_loopw [5] (fun i wr => ∃ j : Nat, j ≤ n ∧ i = .int .i64 (j : Int) ∧ Hid (l.take j = k.take j) ∧ Below w.heap.size w wr) (fun i _ => n - (intOf i).toNat)
    case atStart => exact ⟨0, Nat.zero_le _, rfl, Lib.hid rfl, Below.refl _ _⟩
    case round =>
      obtain ⟨j, hj, rfl, Htk, hbw⟩ := hrel
      by_cases hjn : j < n
      · have h1 : j < l.length := by have := Hn.out; omega
        have h2 : j < k.length := by have := Hm.out; omega
        obtain ⟨b1, o1, rfl, hb1, c1⟩ := (HA.out.below hbw).at j h1
        obtain ⟨b2, o2, rfl, hb2, c2⟩ := (HB.out.below hbw).at j h2
        have Hnext := Lib.hid (fun e => take_eq_step h1 h2 Htk.out e)
        have Hno : Hid (l[j] ≠ k[j] → x = false) := Lib.hid (fun h => by rw [← Hx.out, decide_eq_false_iff_not]; intro e; subst e; exact h rfl)
        generalize l[j] = p at *
        generalize k[j] = q at *
        have hjn' : (j : Int) < (n : Int) := by omega
        have Hbw := Lib.hid hbw
        clear hbw
        by_cases hpq : p = q
        · subst hpq
          have Hn2 := Lib.hid (Hnext.out rfl)
          clear Hnext Hno
          go_upto_region 6 with fail
          go_quiet (fail)
          go_wp2
          go_roundw
          case rel => exact ⟨j + 1, by omega, by go_num, Hn2, below_drewN Hbw.out _⟩
          case measure => simp [intOf]; omega
        · have hxf := Hno.out hpq
          subst hxf
          clear Hnext Hno Hx
          go_upto_region 6 with fail
          go_quiet (fail)
          go_wp2
          go_ret
          exact ⟨rfl, below_drewN Hbw.out _⟩
      · have hjn' : ¬ (j : Int) < (n : Int) := by omega
        have hxt : x = true := by rw [← Hx.out, decide_eq_true_eq]; have := Htk.out; rwa [List.take_of_length_le (by have := Hn.out; omega), List.take_of_length_le (by have := Hm.out; omega)] at this
        subst hxt
        clear Hx
        go_wp2
        go_ret
        exact ⟨rfl, hbw⟩
  · have hxf : x = false := by rw [← Hx.out, decide_eq_false_iff_not]; intro e; subst e; omega
    subst hxf
    have hnm' : ¬ (n : Int) = (m : Int) := by omega
    clear Hx hn hm
    go_enter Try.func26, Try.ntmps26
    go_wp2
    go_ret
    exact ⟨rfl, (by repeat' (first | with_reducible exact Below.refl _ _ | with_reducible refine below_drewN ?_ _ | with_reducible refine Below.drew ?_ | with_reducible refine Below.alloc ?_ ?_ _ | with_reducible refine Below.setCell ?_ ?_ _ | with_reducible refine Below.trans ?_ (Below.mono (by with_reducible assumption) ?_) | (simp; done) | (simp; omega) | omega))⟩

set_option maxHeartbeats 1000000 in
theorem has_any (A : Option Addr) (n c : Nat) (l : List Int) (x : Int) (w : World) (hA : Sl w A c (l.map (.int .i64))) (hn : l.length = n) :
    Calls Try.prog 45 #[.slice A n c, .int .i64 x] w fun e w' => e = .returned (.bool (decide (x ∈ l))) ∧ w' = w := by
  have hn1 := Nat.le_trans hA.cap hA.top
  rw [List.length_map] at hn1
  unfold maxLen at hn1
  have HA := Lib.hid hA
  have Hn := Lib.hid hn
  obtain ⟨r, hr⟩ : ∃ r, decide (x ∈ l) = r := ⟨_, rfl⟩
  rw [hr]
  have Hr := Lib.hid hr
  have hn2 : n ≤ 9223372036854775807 := by omega
  clear hA hn hr
  go_enter Try.func45, Try.ntmps45
  go_upto_region 2 with fail
  go_loop [5] (fun i => ∃ k : Nat, k ≤ n ∧ i = .int .i64 (k : Int) ∧ Hid (x ∉ l.take k)) (fun i => n - (intOf i).toNat)
  case atStart => exact ⟨0, Nat.zero_le _, rfl, Lib.hid (by simp)⟩
  case round =>
    obtain ⟨k, hk, rfl, Hno⟩ := hrel
    by_cases hkn : k < n
    · have hkl : k < l.length := by have := Hn.out; omega
      obtain ⟨b, off, rfl, hb, c0⟩ := HA.out.at k hkl
      have Hmem := Lib.hid (mem_take_succ hkl x)
      have Hin : Hid (x = l[k] → r = true) := Lib.hid (fun h => by rw [← Hr.out, decide_eq_true_eq, h]; exact List.getElem_mem hkl)
      generalize l[k] = y at *
      have hkn' : (k : Int) < (n : Int) := by omega
      by_cases hxy : x = y
      · have hrt := Hin.out hxy
        subst hxy hrt
        clear Hin Hmem Hr
        go_wp2
        go_ret
        exact ⟨rfl, rfl⟩
      · have Hno2 : Hid (x ∉ l.take (k + 1)) := Lib.hid (by rw [Hmem.out]; intro h; rcases h with h | h; exact Hno.out h; exact hxy h)
        have hyx : ¬ y = x := fun e => hxy e.symm
        clear Hin Hmem
        go_wp2
        go_round
        case rel => exact ⟨k + 1, by omega, by go_num, Hno2⟩
        case measure => simp [intOf]; omega
    · have hkn' : ¬ (k : Int) < (n : Int) := by omega
      have hrf : r = false := by rw [← Hr.out, decide_eq_false_iff_not]; have := Hno.out; rwa [List.take_of_length_le (by have := Hn.out; omega)] at this
      subst hrf
      clear Hr
      go_wp2
      go_ret
      exact ⟨rfl, rfl⟩
end Go.Proofs.Ytjmbdfoegnfpnaa
