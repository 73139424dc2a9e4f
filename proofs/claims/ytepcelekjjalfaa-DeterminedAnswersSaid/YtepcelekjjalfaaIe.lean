/- Contract: comparing two lists of numbers. -/
import Derived.Test.YtepcelekjjalfaaSm
namespace Go.Proofs.Ytepcelekjjalfaa
open Go.RowKit
set_option linter.unusedVariables false

theorem add_none (b off j : Nat) : Addr.add ⟨b, off, none⟩ j = ⟨b, off + j, none⟩ := by
  unfold Addr.add
  split
  · subst_vars; rfl
  · rfl
theorem Lies.new (w : World) (t : TypeId) (cs : Array Value) (n : Nat) (xs : List Value) (hx : xs = cs.toList) (B : Nat) (hB : B = w.heap.size) : Lies (w.alloc (.cells cs t)) (some ⟨B, 0, none⟩) n xs := by
  subst hB
  subst hx
  refine .inr ⟨_, 0, rfl, by simp, ?_⟩
  intro x u hx
  have := World.news_of_block (heap_alloc_new w (.cells cs t)) x u hx
  rwa [add_none] at this
theorem Lies.below {w w' : World} {A : Option Addr} {n : Nat} {xs : List Value} (h : Lies w A n xs) (hb : Below w.heap.size w w') : Lies w' A n xs := by
  rcases h with h | ⟨b, off, e, hlt, hc⟩
  · exact .inl h
  · exact .inr ⟨b, off, e, Nat.lt_of_lt_of_le hlt hb.size, fun j u hu => (hb.cell (p := ⟨b, off + j, none⟩) hlt).trans (hc j u hu)⟩
theorem Lies.alloc {w : World} {A : Option Addr} {n : Nat} {xs : List Value} (h : Lies w A n xs) (o : Obj) : Lies (w.alloc o) A n xs := h.below ((Below.refl _ _).alloc (Nat.le_refl _) o)
theorem Lies.drewN {w : World} {A : Option Addr} {n : Nat} {xs : List Value} (h : Lies w A n xs) (k : Nat) : Lies (w.drewN k) A n xs := h
theorem Lies.of_own {w : World} {base : Nat} {e : TypeId} {size n c : Nat} {A : Option Addr} {xs : List Value} (h : w.ownsRow base e size (.slice A n c) n xs) : Lies w A n xs := by
  rcases Nat.eq_zero_or_pos n with h0 | h0
  · exact .inl h0
  · obtain ⟨g, cap, hv, _, hlt⟩ := h.form h0
    injection hv with hA _ _
    subst hA
    refine .inr ⟨g, 0, rfl, hlt, fun j u hu => ?_⟩
    have := h.cells (g := g) rfl j u hu
    rwa [add_none] at this
/-- What is a slice, seen through what owns it. -/
theorem own_slice {w : World} {base : Nat} {e : TypeId} {size n : Nat} {v : Value} {xs : List Value} (h : w.ownsRow base e size v n xs) : ∃ A c, v = .slice A n c ∧ Lies w A n xs ∧ n ≤ c ∧ c ≤ maxLen := by
  rcases h.2 with ⟨rfl, rfl⟩ | ⟨g, cap, cur, rfl, _, _, hnc, hcm, _⟩
  · exact ⟨none, 0, rfl, .inl rfl, Nat.le_refl _, Nat.zero_le _⟩
  · exact ⟨_, cap, rfl, Lies.of_own h, hnc, hcm⟩

theorem lies_int {w : World} {A : Option Addr} {n : Nat} {xs : List Int} (h : Lies w A n (xs.map (.int .i64))) (i : Nat) (hi : i < n) (hl : i < xs.length) : ∃ b off, A = some ⟨b, off, none⟩ ∧ b < w.heap.size ∧ w.cell? ⟨b, off + i, none⟩ = some (.int .i64 xs[i]) := by
  obtain ⟨b, off, e, hb, hc⟩ := h.resolve_left (by omega)
  exact ⟨b, off, e, hb, hc i _ (by simp [hl])⟩
/-- Whether two lists are one. -/
def sameL (xs ys : List Int) : Bool := decide (xs = ys)

set_option maxHeartbeats 400000 in
theorem ints_any (A B : Option Addr) (n m c d : Nat) (xs ys : List Int) (w : World) (hx : xs.length = n) (hy : ys.length = m) (hn : n ≤ maxLen) (hm : m ≤ maxLen) (hA : Lies w A n (xs.map (.int .i64))) (hB : Lies w B m (ys.map (.int .i64))) :
    Calls Try.prog 19 #[.slice A n c, .slice B m d] w fun e w' => e = .returned (.bool (sameL xs ys)) ∧ Below w.heap.size w w' := by
  unfold maxLen at hn hm
  by_cases hnm : n = m
  · subst hnm
    have Hx := Lib.hid hx
    have Hy := Lib.hid hy
    have HA := Lib.hid hA
    have HB := Lib.hid hB
    clear hx hy hA hB hm
    go_enter Try.func19, Try.ntmps19
    go_wp2
    go_loopw [5] (fun i wr => ∃ k : Nat, k ≤ n ∧ i = .int .i64 k ∧ xs.take k = ys.take k ∧ Below w.heap.size w wr) (fun i _ => n - (intOf i).toNat)
    case atStart => exact ⟨0, Nat.zero_le _, rfl, rfl, Below.refl _ _⟩
    case round =>
      obtain ⟨k, hk, rfl, he, hbr⟩ := hrel
      have He := Lib.hid he
      clear he
      by_cases hkn : k < n
      · have hl1 : k < xs.length := by have := Hx.out; omega
        have hl2 : k < ys.length := by have := Hy.out; omega
        obtain ⟨b, off, rfl, hb, c1⟩ := lies_int HA.out k hkn hl1
        obtain ⟨b2, off2, rfl, hb2, c2⟩ := lies_int HB.out k hkn hl2
        replace c1 := (hbr.cell (p := ⟨b, off + k, none⟩) hb).trans c1
        replace c2 := (hbr.cell (p := ⟨b2, off2 + k, none⟩) hb2).trans c2
        have t1 : Hid (xs.take (k + 1) = xs.take k ++ [xs[k]]) := List.take_succ_eq_append_getElem hl1
        have t2 : Hid (ys.take (k + 1) = ys.take k ++ [ys[k]]) := List.take_succ_eq_append_getElem hl2
        have t3 : Hid (xs = ys → xs[k] = ys[k]) := fun h => by subst h; rfl
        generalize xs[k] = x at *
        generalize ys[k] = y at *
        have hk0 : (0 : Int) ≤ (k : Int) := Int.natCast_nonneg _
        have hk1 : (k : Int) < (n : Int) := by omega
        by_cases hxy : x = y
        · subst hxy
          go_wp2
          go_quiet (fail)
          go_wp2
          go_roundw
          case rel => exact ⟨k + 1, by omega, by go_num, by rw [t1.out, t2.out, He.out], (by repeat' (first | exact Below.refl _ _ | refine below_drewN ?_ _ | refine Below.drew ?_ | refine Below.alloc ?_ ?_ _ | refine Below.setCell ?_ ?_ _ | refine Below.trans ?_ (Below.mono (by assumption) ?_) | (simp; done) | (simp; omega) | omega))⟩
          case measure => simp [intOf]; omega
        · have hne : (x != y) = true := by simpa using hxy
          have hs : sameL xs ys = false := by unfold sameL; simp; exact fun h => hxy (t3.out h)
          have Hs := Lib.hid hs
          clear hs hxy
          go_wp2
          go_quiet (fail)
          go_wp2
          go_ret
          exact ⟨by rw [Hs.out]; rfl, (by repeat' (first | exact Below.refl _ _ | refine below_drewN ?_ _ | refine Below.drew ?_ | refine Below.alloc ?_ ?_ _ | refine Below.setCell ?_ ?_ _ | refine Below.trans ?_ (Below.mono (by assumption) ?_) | (simp; done) | (simp; omega) | omega))⟩
      · have hs : sameL xs ys = true := by
          have e1 : xs.take k = xs := List.take_of_length_le (by have := Hx.out; omega)
          have e2 : ys.take k = ys := List.take_of_length_le (by have := Hy.out; omega)
          have := He.out
          rw [e1, e2] at this
          unfold sameL
          simpa using this
        have Hs := Lib.hid hs
        clear hs
        go_wp2
        go_ret
        exact ⟨by rw [Hs.out]; rfl, (by repeat' (first | exact Below.refl _ _ | refine below_drewN ?_ _ | refine Below.drew ?_ | refine Below.alloc ?_ ?_ _ | refine Below.setCell ?_ ?_ _ | refine Below.trans ?_ (Below.mono (by assumption) ?_) | (simp; done) | (simp; omega) | omega))⟩
  · have hs : sameL xs ys = false := by
      unfold sameL
      simp
      intro h
      subst h
      omega
    rw [hs]
    clear hs hx hy hA hB
    have hne : ((n : Int) != (m : Int)) = true := by simp; omega
    go_enter Try.func19, Try.ntmps19
    go_wp2
    go_ret
    exact ⟨rfl, (by repeat' (first | exact Below.refl _ _ | refine below_drewN ?_ _ | refine Below.drew ?_ | refine Below.alloc ?_ ?_ _ | refine Below.setCell ?_ ?_ _ | refine Below.trans ?_ (Below.mono (by assumption) ?_) | (simp; done) | (simp; omega) | omega))⟩
end Go.Proofs.Ytepcelekjjalfaa
