/- Contracts: Total (payments, reference), Lists, Same. -/
import Derived.Test.YtbkfdpdcnjecbaaTw
namespace Go.Proofs.Ytbkfdpdcnjecbaa
open Go.RowKit
set_option linter.unusedVariables false

theorem lies_ord {w : World} {A : Option Addr} {n : Nat} {l : List Ord4} (h : Lies w A n (ordCells l)) (i : Nat) (hi : i < n) (hl : i < l.length) :
    ∃ b off, A = some ⟨b, off, none⟩ ∧ b < w.heap.size ∧ w.cell? ⟨b, off + i * 4, none⟩ = some (.int .i64 l[i].n) ∧ w.cell? ⟨b, off + i * 4 + 1, none⟩ = some (.int .i64 l[i].f) ∧ w.cell? ⟨b, off + i * 4 + 2, none⟩ = some (.int .i64 l[i].a) ∧ w.cell? ⟨b, off + i * 4 + 3, none⟩ = some (.int .i64 l[i].d) := by
  obtain ⟨b, off, e, hb, hc⟩ := h.resolve_left (by omega)
  obtain ⟨h0, h1, h2, h3⟩ := ordCells_at l i hl
  exact ⟨b, off, e, hb, hc _ _ h0, hc _ _ h1, hc _ _ h2, hc _ _ h3⟩

set_option maxHeartbeats 800000 in
theorem totalR_any (A : Option Addr) (n c : Nat) (l : List Ord4) (f : Int) (w : World) (hx : l.length = n) (hn : n ≤ 1000000) (hA : Lies w A n (ordCells l)) :
    Calls Try.prog 34 #[.slice A n c, .int .i64 f] w fun e w' => e = .returned (.int .i64 (totalB l f)) ∧ w = w' := by
  have Hx := Lib.hid hx
  have HA := Lib.hid hA
  clear hx hA
  go_enter Try.func34, Try.ntmps34
  go_wp2
  go_loop [5, 6] (fun s i => ∃ k : Nat, k ≤ n ∧ i = .int .i64 (k : Int) ∧ s = .int .i64 (totalB (l.take k) f)) (fun _ i => n - (intOf i).toNat)
  case atStart => exact ⟨0, Nat.zero_le _, rfl, rfl⟩
  case round =>
    obtain ⟨k, hk, rfl, rfl⟩ := hrel
    by_cases hkn : k < n
    · have hl : k < l.length := by have := Hx.out; omega
      obtain ⟨b, off, rfl, hbl, c0, c1, c2, c3⟩ := lies_ord HA.out k hkn hl
      have Hs : Hid (totalB (l.take (k + 1)) f = if l[k].f = f then wrap64 (totalB (l.take k) f + l[k].a) else totalB (l.take k) f) := by
        show totalB (l.take (k + 1)) f = _
        rw [List.take_succ_eq_append_getElem hl, totalB_snoc]
      generalize l[k] = o at *
      generalize totalB (l.take k) f = s at *
      go_wp2
      all_goals
        go_round
        case rel => exact ⟨k + 1, by omega, by go_num, by rw [Hs.out]; first | rw [if_pos (eq_of_beq (by assumption))] | rw [if_neg (ne_of_beq_false (by assumption))]⟩
        case measure => simp [intOf]; omega
    · have e1 : Hid (l.take k = l) := List.take_of_length_le (by have := Hx.out; omega)
      rw [e1.out]
      go_wp2
      go_ret
      exact ⟨rfl, rfl⟩

set_option maxHeartbeats 800000 in
theorem totalP_any (A : Option Addr) (n c : Nat) (l : List Ord4) (f : Int) (w : World) (hx : l.length = n) (hn : n ≤ 1000000) (hA : Lies w A n (ordCells l)) :
    Calls Try.prog 22 #[.slice A n c, .int .i64 f] w fun e w' => e = .returned (.int .i64 (totalB l f)) ∧ Below w.heap.size w w' := by
  have Hx := Lib.hid hx
  have HA := Lib.hid hA
  clear hx hA
  go_enter Try.func22, Try.ntmps22
  go_wp2
  go_loopw [5, 10] (fun s i wr => ∃ k : Nat, k ≤ n ∧ i = .int .i64 (k : Int) ∧ s = .int .i64 (totalB (l.take k) f) ∧ Below w.heap.size w wr) (fun _ i _ => n - (intOf i).toNat)
  case atStart => exact ⟨0, Nat.zero_le _, rfl, rfl, Below.refl _ _⟩
  case round =>
    obtain ⟨k, hk, rfl, rfl, hbw⟩ := hrel
    have hsz := hbw.size
    by_cases hkn : k < n
    · have hl : k < l.length := by have := Hx.out; omega
      obtain ⟨b, off, rfl, hbl, c0, c1, c2, c3⟩ := lies_ord (HA.out.below hbw) k hkn hl
      have Hs : Hid (totalB (l.take (k + 1)) f = if l[k].f = f then wrap64 (totalB (l.take k) f + l[k].a) else totalB (l.take k) f) := by
        show totalB (l.take (k + 1)) f = _
        rw [List.take_succ_eq_append_getElem hl, totalB_snoc]
      generalize l[k] = o at *
      generalize totalB (l.take k) f = s at *
      go_wp2
      all_goals
        go_roundw
        case rel => exact ⟨k + 1, by omega, by go_num, by rw [Hs.out]; first | rw [if_pos (eq_of_beq (by assumption))] | rw [if_neg (ne_of_beq_false (by assumption))], (by repeat' (first | with_reducible exact Below.refl _ _ | with_reducible assumption | with_reducible refine below_drewN ?_ _ | with_reducible refine Below.drew ?_ | with_reducible refine Below.alloc ?_ ?_ _ | with_reducible refine Below.setCell ?_ ?_ _ | with_reducible refine Below.trans ?_ (Below.mono (by with_reducible assumption) ?_) | with_reducible refine below_only ?_ (by with_reducible assumption) ?_ ?_ | (simp; done) | (simp; omega) | omega))⟩
        case measure => simp [intOf]; omega
    · have e1 : Hid (l.take k = l) := List.take_of_length_le (by have := Hx.out; omega)
      rw [e1.out]
      go_wp2
      go_ret
      exact ⟨rfl, hbw⟩

instance : DecidableEq Ord4 := fun a b => decidable_of_iff (a.n = b.n ∧ a.f = b.f ∧ a.a = b.a ∧ a.d = b.d) (by cases a; cases b; simp)

set_option maxHeartbeats 800000 in
theorem lists_any (A B : Option Addr) (n c m d : Nat) (l k : List Ord4) (w : World) (hx : l.length = n) (hy : k.length = m) (hn : n ≤ 1000000) (hm : m ≤ 1000000) (hA : Lies w A n (ordCells l)) (hB : Lies w B m (ordCells k)) :
    Calls Try.prog 17 #[.slice A n c, .slice B m d] w fun e w' => e = .returned (.bool (decide (l = k))) ∧ Below w.heap.size w w' := by
  have Hx := Lib.hid hx
  have Hy := Lib.hid hy
  have HA := Lib.hid hA
  have HB := Lib.hid hB
  by_cases hnm : n = m
  · subst hnm
    clear hx hy hA hB
    go_enter Try.func17, Try.ntmps17
    go_wp2
    go_loopw [5] (fun i wr => ∃ j : Nat, j ≤ n ∧ i = .int .i64 (j : Int) ∧ l.take j = k.take j ∧ Below w.heap.size w wr) (fun i _ => n - (intOf i).toNat)
    case atStart => exact ⟨0, Nat.zero_le _, rfl, rfl, Below.refl _ _⟩
    case round =>
      obtain ⟨j, hj, rfl, heq, hbw⟩ := hrel
      have Heq := Lib.hid heq
      clear heq
      by_cases hjn : j < n
      · have hl1 : j < l.length := by have := Hx.out; omega
        have hl2 : j < k.length := by have := Hy.out; omega
        obtain ⟨b, off, rfl, hbl, c0, c1, c2, c3⟩ := lies_ord (HA.out.below hbw) j hjn hl1
        obtain ⟨b', off', rfl, hbl', d0, d1, d2, d3⟩ := lies_ord (HB.out.below hbw) j hjn hl2
        have hj1 : (j : Int) < (n : Int) := by omega
        have hj0 : (0 : Int) ≤ (j : Int) := by omega
        have Hstep : Hid (l[j] = k[j] → l.take (j + 1) = k.take (j + 1)) := by
          intro h
          have t1 := List.take_succ_eq_append_getElem hl1
          have t2 := List.take_succ_eq_append_getElem hl2
          rw [t1, t2, Heq.out, h]
        have Hlk : Hid (l = k → l[j] = k[j]) := fun h => by subst h; rfl
        have Ho := Lib.hid (ordEq_iff l[j] k[j])
        have hnq := ord_neq
        have hgd := ordGuard
        generalize l[j] = o at *
        generalize k[j] = p at *
        by_cases hop : o = p
        · have hob : ordEq o.n o.f o.a o.d p.n p.f p.a p.d = true := Ho.out.2 hop
          have Hop := Lib.hid hop
          clear hop
          go_wp2
          go_quiet (fail)
          go_wp2
          go_roundw
          case rel => exact ⟨j + 1, by omega, by go_num, Hstep.out Hop.out, below_drewN hbw _⟩
          case measure => simp [intOf]; omega
        · have hob : ordEq o.n o.f o.a o.d p.n p.f p.a p.d = false := by
            cases h : ordEq o.n o.f o.a o.d p.n p.f p.a p.d
            · rfl
            · exact absurd (Ho.out.1 h) hop
          have Hop := Lib.hid hop
          clear hop
          go_wp2
          go_quiet (fail)
          go_wp2
          go_ret
          exact ⟨ret_bool (by simp; intro h; exact Hop.out (Hlk.out h)), below_drewN hbw _⟩
      · have e1 : l.take j = l := List.take_of_length_le (by have := Hx.out; omega)
        have e2 : k.take j = k := List.take_of_length_le (by have := Hy.out; omega)
        have Hlk : Hid (l = k) := by have := Heq.out; rw [e1, e2] at this; exact this
        clear e1 e2
        go_wp2
        go_ret
        exact ⟨by rw [Hlk.out]; simp, hbw⟩
  · go_enter Try.func17, Try.ntmps17
    go_wp2
    go_ret
    exact ⟨ret_bool (by simp; intro e; rw [e] at hx; omega), Below.refl _ _⟩
end Go.Proofs.Ytbkfdpdcnjecbaa
