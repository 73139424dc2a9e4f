/- Contracts: the check value of bytes; which order is right; a number put behind bytes. -/
import Derived.Test.YtbkfdpdcnjecbaaB
namespace Go.Proofs.Ytbkfdpdcnjecbaa
open Go.RowKit
set_option linter.unusedVariables false

/-- The check value of bytes. -/
def sumB (l : List Int) : Int := l.foldl (fun n b => (31 * n + b + 1) % 65521) 40503
/-- Whether all numbers are bytes. -/
def Bytes (l : List Int) : Prop := ∀ b ∈ l, 0 ≤ b ∧ b ≤ 255
theorem sumB_snoc (l : List Int) (b : Int) : sumB (l ++ [b]) = (31 * sumB l + b + 1) % 65521 := by simp [sumB]
theorem sumB_bd (l : List Int) (h : Bytes l) : 0 ≤ sumB l ∧ sumB l < 65521 := by
  unfold sumB
  suffices ∀ (l : List Int) (n : Int), 0 ≤ n → n < 65521 → 0 ≤ l.foldl (fun n b => (31 * n + b + 1) % 65521) n ∧ l.foldl (fun n b => (31 * n + b + 1) % 65521) n < 65521 from this l 40503 (by omega) (by omega)
  intro l
  induction l with
  | nil => intro n h1 h2; exact ⟨h1, h2⟩
  | cons b r ih => intro n h1 h2; exact ih _ (show 0 ≤ (31 * n + b + 1) % 65521 by omega) (show (31 * n + b + 1) % 65521 < 65521 by omega)
theorem Bytes.take {l : List Int} (h : Bytes l) (k : Nat) : Bytes (l.take k) := fun b hb => h b (List.mem_of_mem_take hb)
theorem Bytes.drop {l : List Int} (h : Bytes l) (k : Nat) : Bytes (l.drop k) := fun b hb => h b (List.mem_of_mem_drop hb)
theorem Bytes.app {l m : List Int} (h : Bytes l) (k : Bytes m) : Bytes (l ++ m) := fun b hb => (List.mem_append.1 hb).elim (h b) (k b)

theorem lies_u8 {w : World} {A : Option Addr} {n : Nat} {xs : List Int} (h : Lies w A n (xs.map (.int .u8))) (i : Nat) (hi : i < n) (hl : i < xs.length) : ∃ b off, A = some ⟨b, off, none⟩ ∧ b < w.heap.size ∧ w.cell? ⟨b, off + i, none⟩ = some (.int .u8 xs[i]) := by
  obtain ⟨b, off, e, hb, hc⟩ := h.resolve_left (by omega)
  exact ⟨b, off, e, hb, hc i _ (by simp [hl])⟩

set_option maxHeartbeats 400000 in
theorem sumP_any (A : Option Addr) (n c : Nat) (xs : List Int) (w : World) (hx : xs.length = n) (hn : n ≤ maxLen) (hb : Bytes xs) (hA : Lies w A n (xs.map (.int .u8))) :
    Calls Try.prog 25 #[.slice A n c] w fun e w' => e = .returned (.int .i64 (sumB xs)) ∧ w = w' := by
  unfold maxLen at hn
  have Hx := Lib.hid hx
  have HA := Lib.hid hA
  clear hx hA
  go_enter Try.func25, Try.ntmps25
  go_wp2
  go_loop [3, 8] (fun s i => ∃ k : Nat, k ≤ n ∧ i = .int .i64 (k : Int) ∧ s = .int .i64 (sumB (xs.take k))) (fun _ i => n - (intOf i).toNat)
  case atStart => exact ⟨0, Nat.zero_le _, rfl, rfl⟩
  case round =>
    obtain ⟨k, hk, rfl, rfl⟩ := hrel
    have hbd := sumB_bd (xs.take k) (hb.take k)
    by_cases hkn : k < n
    · have hl : k < xs.length := by have := Hx.out; omega
      obtain ⟨b, off, rfl, hbl, c1⟩ := lies_u8 HA.out k hkn hl
      have hby := hb xs[k] (List.getElem_mem hl)
      have Hs : Hid (sumB (xs.take (k + 1)) = (31 * sumB (xs.take k) + xs[k] + 1) % 65521) := by
        show sumB (xs.take (k + 1)) = _
        rw [List.take_succ_eq_append_getElem hl, sumB_snoc]
      generalize xs[k] = x at *
      generalize sumB (xs.take k) = s at *
      go_wp2
      go_round
      case rel => exact ⟨k + 1, by omega, by go_num, by rw [Hs.out]⟩
      case measure => simp [intOf]; omega
    · have e1 : Hid (xs.take k = xs) := List.take_of_length_le (by have := Hx.out; omega)
      rw [e1.out]
      clear hbd
      go_wp2
      go_ret
      exact ⟨rfl, rfl⟩

/-- An order, as plain numbers. -/
structure Ord4 where
  n : Int
  f : Int
  a : Int
  d : Int
def rightB (o : Ord4) : Bool := inB o.n 1 1125899906842624 && inB o.f 1 60 && inB o.a 1 68719476736 && inB o.d 1 1125899906842624
theorem rightB_iff (o : Ord4) : rightB o = true ↔ (1 ≤ o.n ∧ o.n ≤ 1125899906842624) ∧ (1 ≤ o.f ∧ o.f ≤ 60) ∧ (1 ≤ o.a ∧ o.a ≤ 68719476736) ∧ 1 ≤ o.d ∧ o.d ≤ 1125899906842624 := by
  simp [rightB, inB]
  omega

set_option maxHeartbeats 400000 in
theorem rightIn_any (n m : Int) (w : World) :
    Calls Try.prog 45 #[.int .i64 n, .int .i64 m] w fun e w' => e = .returned (.bool (inB n 1 m)) ∧ w = w' := by
  go_enter Try.func45, Try.ntmps45
  go_wp2
  all_goals
    go_ret
    exact ⟨ret_bool (by simp [inB_iff]; omega), rfl⟩

set_option maxHeartbeats 400000 in
theorem right_any (o : Ord4) (w : World) :
    Calls Try.prog 36 #[.agg #[.int .i64 o.n, .int .i64 o.f, .int .i64 o.a, .int .i64 o.d]] w fun e w' => e = .returned (.bool (rightB o)) ∧ Below w.heap.size w w' := by
  go_enter Try.func36, Try.ntmps36
  go_wp2_with (go_at_call 45; refine (rightIn_any _ _ _).mono ?_; rintro e w' ⟨rfl, rfl⟩)
  all_goals
    go_ret
    exact ⟨ret_bool (by simp_all [rightB]), (by repeat' (first | with_reducible exact Below.refl _ _ | with_reducible refine below_drewN ?_ _ | with_reducible refine Below.drew ?_ | with_reducible refine Below.alloc ?_ ?_ _ | with_reducible refine Below.setCell ?_ ?_ _ | with_reducible refine Below.trans ?_ (Below.mono (by with_reducible assumption) ?_) | (simp; done) | (simp; omega) | omega))⟩

/-- The bytes of a number, the most significant first. -/
def be (n : Int) : Nat → List Int
  | 0 => []
  | k + 1 => (n / 2 ^ (8 * k) % 256) :: be n k
theorem be_len (n : Int) (k : Nat) : (be n k).length = k := by
  induction k with
  | zero => rfl
  | succ k ih => simp [be, ih]
theorem be_bytes (n : Int) (k : Nat) : Bytes (be n k) := by
  induction k with
  | zero => intro b hb; simp [be] at hb
  | succ k ih =>
    intro b hb
    simp only [be, List.mem_cons] at hb
    rcases hb with rfl | hb
    · omega
    · exact ih b hb
theorem be_drop (n : Int) (m j : Nat) : (be n (m + j)).drop m = be n j := by
  induction m with
  | zero => simp
  | succ m ih =>
    rw [show m + 1 + j = (m + j) + 1 from by omega]
    simp only [be, List.drop_succ_cons]
    exact ih
theorem be_take (n : Int) (m j : Nat) : (be n (m + (j + 1))).take (m + 1) = (be n (m + (j + 1))).take m ++ [n / 2 ^ (8 * j) % 256] := by
  have hl : m < (be n (m + (j + 1))).length := by rw [be_len]; omega
  rw [List.take_succ_eq_append_getElem hl]
  have h1 : (be n (m + (j + 1))).drop m = (n / 2 ^ (8 * j) % 256) :: be n j := be_drop n m (j + 1)
  rw [List.drop_eq_getElem_cons hl] at h1
  injection h1 with h1 _
  rw [h1]

theorem Try.infoByte : (Try.prog.info? 5).map (fun i => (i.zero, i.size, i.bytes)) = some (some (.int .u8 0), 1, 1) := by kernel_rfl

/-- What a call leaves that puts bytes behind a row of the caller's own. -/
def PutPost (w : World) (base : Nat) (xs : List Int) (e : Ending) (w' : World) : Prop :=
  ∃ v, e = .returned v ∧ w'.ownsRow base 5 1 v xs.length (xs.map (.int .u8)) ∧ Below base w w'

set_option maxHeartbeats 400000 in
theorem putP_any (base : Nat) (v : Value) (xs : List Int) (n : Int) (width : Nat) (w : World) (hown : w.ownsRow base 5 1 v xs.length (xs.map (.int .u8))) (hbase : base ≤ w.heap.size) (hn : 0 ≤ n ∧ n ≤ 9223372036854775807) (hw : width ≤ 8) (hx : xs.length ≤ 1000000) :
    Calls Try.prog 47 #[v, .int .i64 n, .int .i64 (width : Int)] w (PutPost w base (xs ++ be n width)) := by
  obtain ⟨i0, hi, hz0, hz1, hz2⟩ := info_parts Try.infoByte
  have Hown := Lib.hid hown
  clear hown
  go_enter Try.func47, Try.ntmps47
  go_wp2
  go_loopw [0, 7] (fun b k wr => ∃ m j : Nat, m + j = width ∧ k = .int .i64 ((j : Int) - 1) ∧ wr.ownsRow base 5 1 b (xs.length + m) ((xs ++ (be n width).take m).map (.int .u8)) ∧ Below base w wr) (fun _ k _ => (intOf k + 1).toNat)
  case atStart => exact ⟨0, width, by omega, rfl, by simpa using Hown.out, Below.refl _ _⟩
  case round =>
    obtain ⟨m, j, hmj, rfl, hown, hbr⟩ := hrel
    have hsr := hbr.size
    by_cases hj : 0 < j
    · obtain ⟨j, rfl⟩ : ∃ i, j = i + 1 := ⟨j - 1, by omega⟩
      have Hmj := Lib.hid hmj
      have hm8 : m ≤ 7 := by omega
      have hj7 : j ≤ 7 := by omega
      clear hmj
      have Ht : Hid ((be n width).take (m + 1) = (be n width).take m ++ [n / 2 ^ (8 * j) % 256]) := by
        show (be n width).take (m + 1) = _
        rw [← Hmj.out]
        exact be_take n m j
      have ej : Hid (((j + 1 : Nat) : Int) - 1 = (j : Int)) := by show ((j + 1 : Nat) : Int) - 1 = (j : Int); omega
      rw [ej.out]
      have Hown1 := Lib.hid hown
      clear hown
      generalize hbv : n / 2 ^ (8 * j) % 256 = bv at *
      go_wp2_with (at_builtin
                   refine wpList_append_lies _ rfl _ _ 26 rfl base 5 i0 (.int .u8 0) 1 1 Try.underlying26 hi hz0 hz1 hz2 rfl (by omega) _ (xs.length + m) ((xs ++ (be n width).take m).map (.int .u8)) rfl (Hown1.out.alloc _) ⟨wr.heap.size, 0, none⟩ 1 1 [.int .u8 bv] rfl rfl (World.news_of_block (cs := #[.int .u8 bv]) (t := 5) (fr := (0, 0)) (heap_alloc_new wr _)) ?_ (by omega) ?_ ?_ ?_ (wr.heap.size + 1) ?_ ?_
                   · simp [Value.oneCell']
                   · unfold maxLen; omega
                   · omega
                   · simp; omega
                   · simp
                   intro gg cap w9 hown9 hgrow hat hltg)
      go_roundw
      case rel =>
        have hgr : (wr.alloc (Obj.cells #[Value.int IntKind.u8 bv] 5)).grownBy w9 u0.ownBlock := hgrow
        refine ⟨m + 1, j, by have := Hmj.out; omega, rfl, ?_, ?_⟩
        · rw [Ht.out, ← List.append_assoc, List.map_append]
          exact hown9
        · exact Below.grown (hbr.alloc (by omega) _) hgr (by simp; omega) (own_base Hown1.out)
      case measure => simp [intOf]
    · obtain rfl : j = 0 := by omega
      have Hown1 : Hid (wr.ownsRow base 5 1 u0 (xs ++ be n width).length ((xs ++ be n width).map (.int .u8))) := by
        show World.ownsRow _ _ _ _ _ _ _
        have e1 : m = width := by omega
        subst e1
        rw [List.take_of_length_le (by rw [be_len]; omega)] at hown
        rw [List.length_append, be_len]
        exact hown
      clear hown
      go_wp2
      go_ret
      exact ⟨_, rfl, Hown1.out, hbr⟩
end Go.Proofs.Ytbkfdpdcnjecbaa
