/- Plain laws: bytes and records; orders read back; a changed byte. No program. -/
import Derived.Test.YtbkfdpdcnjecbaaWp
namespace Go.Proofs.Ytbkfdpdcnjecbaa
open Go.RowKit
set_option linter.unusedVariables false

theorem pow_256 (k : Nat) : (2 : Int) ^ (8 * k) = 256 ^ k := by
  rw [Int.pow_mul]; rfl
theorem numB_be_acc (n : Int) (hn : 0 ≤ n) (k : Nat) : ∀ a : Int, (be n k).foldl (fun n b => 256 * n + b) a = a * 256 ^ k + n % 256 ^ k := by
  induction k with
  | zero => intro a; simp [be, Int.emod_one]
  | succ k ih =>
    intro a
    show (be n k).foldl (fun n b => 256 * n + b) (256 * a + n / 2 ^ (8 * k) % 256) = _
    rw [ih, pow_256]
    have hp : (0 : Int) < 256 ^ k := Int.pow_pos (by omega)
    have h1 : n % 256 ^ (k + 1) = (n / 256 ^ k % 256) * 256 ^ k + n % 256 ^ k := by
      have e1 := Int.emod_add_mul_ediv n (256 ^ k)
      have e2 := Int.emod_add_mul_ediv (n / 256 ^ k) 256
      have b1 := Int.emod_nonneg n (show (256 : Int) ^ k ≠ 0 by omega)
      have b2 := Int.emod_lt_of_pos n hp
      have b3 := Int.emod_nonneg (n / 256 ^ k) (show (256 : Int) ≠ 0 by omega)
      have b4 := Int.emod_lt_of_pos (n / 256 ^ k) (show (0 : Int) < 256 by omega)
      have e3 : n = ((n / 256 ^ k % 256) * 256 ^ k + n % 256 ^ k) + 256 ^ (k + 1) * (n / 256 ^ k / 256) := by
        rw [Int.pow_succ]
        generalize n / 256 ^ k / 256 = y at *
        generalize n / 256 ^ k % 256 = x at *
        generalize n % 256 ^ k = z at *
        rw [show n / 256 ^ k = x + 256 * y from e2.symm] at e1
        rw [← e1, Int.mul_add, ← Int.mul_assoc, Int.mul_comm x]
        omega
      have h5 : 0 ≤ (n / 256 ^ k % 256) * 256 ^ k + n % 256 ^ k := by
        have := Int.mul_nonneg b3 (Int.le_of_lt hp)
        omega
      have h6 : (n / 256 ^ k % 256) * 256 ^ k + n % 256 ^ k < 256 ^ (k + 1) := by
        have : (n / 256 ^ k % 256) * 256 ^ k ≤ 255 * 256 ^ k := Int.mul_le_mul_of_nonneg_right (by omega) (by omega)
        rw [Int.pow_succ]
        omega
      conv => lhs; rw [e3]
      rw [Int.add_mul_emod_self_left]
      exact Int.emod_eq_of_lt h5 h6
    rw [h1, Int.pow_succ, Int.add_mul, Int.mul_comm 256 a, Int.mul_assoc, Int.mul_comm 256 (256 ^ k)]
    omega
theorem numB_be (n : Int) (hn : 0 ≤ n) (k : Nat) : numB (be n k) = n % 256 ^ k := by
  have := numB_be_acc n hn k 0
  simpa [numB] using this
theorem numS_be8 (n : Int) (h0 : 0 ≤ n) (h1 : n < 9223372036854775808) : numS (be n 8) = n := by
  unfold numS
  rw [numB_be n h0]
  unfold wrap64
  omega
theorem numS_be2 (n : Int) (h0 : 0 ≤ n) (h1 : n < 65536) : numS (be n 2) = n := by
  unfold numS
  rw [numB_be n h0]
  unfold wrap64
  omega
/-- The parts of five rows of a record's widths. -/
theorem seg_of (a b c d e r : List Int) (ha : a.length = 8) (hb : b.length = 2) (hc : c.length = 8) (hd : d.length = 8) (he : e.length = 2) :
    seg (a ++ b ++ c ++ d ++ e ++ r) 0 = a ∧ seg (a ++ b ++ c ++ d ++ e ++ r) 1 = b ∧ seg (a ++ b ++ c ++ d ++ e ++ r) 2 = c ∧ seg (a ++ b ++ c ++ d ++ e ++ r) 3 = d ∧ seg (a ++ b ++ c ++ d ++ e ++ r) 4 = e ∧ (a ++ b ++ c ++ d ++ e ++ r).take 26 = a ++ b ++ c ++ d := by
  simp only [seg, atF, wdF, List.append_assoc]
  refine ⟨?_, ?_, ?_, ?_, ?_, ?_⟩
  · rw [List.drop_zero, List.take_left' ha]
  · rw [List.drop_left' ha, List.take_left' hb]
  · rw [← List.append_assoc a b, List.drop_left' (by simp [ha, hb]), List.take_left' hc]
  · rw [← List.append_assoc a b, ← List.append_assoc (a ++ b) c, List.drop_left' (by simp [ha, hb, hc]), List.take_left' hd]
  · rw [← List.append_assoc a b, ← List.append_assoc (a ++ b) c, ← List.append_assoc (a ++ b ++ c) d, List.drop_left' (by simp [ha, hb, hc, hd]), List.take_left' he]
  · have e1 : a ++ (b ++ (c ++ (d ++ (e ++ r)))) = (a ++ (b ++ (c ++ d))) ++ (e ++ r) := by simp
    rw [e1, List.take_left' (by simp [ha, hb, hc, hd])]
theorem rec_seg (o : Ord4) (r : List Int) : seg (recB o ++ r) 0 = be o.n 8 ∧ seg (recB o ++ r) 1 = be o.f 2 ∧ seg (recB o ++ r) 2 = be o.a 8 ∧ seg (recB o ++ r) 3 = be o.d 8 ∧ seg (recB o ++ r) 4 = be (sumB (bodyB o)) 2 ∧ (recB o ++ r).take 26 = bodyB o :=
  seg_of _ _ _ _ _ r (be_len _ _) (be_len _ _) (be_len _ _) (be_len _ _) (be_len _ _)
theorem rec_take (o : Ord4) (r : List Int) : (recB o ++ r).take 28 = recB o := List.take_left' (recB_len o)
theorem rec_ord (o : Ord4) (h : rightB o = true) : ordOf (recB o) = o := by
  obtain ⟨⟨h1, h2⟩, ⟨h3, h4⟩, ⟨h5, h6⟩, h7, h8⟩ := (rightB_iff o).1 h
  obtain ⟨s0, s1, s2, s3, _, _⟩ := rec_seg o []
  rw [List.append_nil] at s0 s1 s2 s3
  unfold ordOf
  rw [s0, s1, s2, s3, numS_be8 _ (by omega) (by omega), numS_be2 _ (by omega) (by omega), numS_be8 _ (by omega) (by omega), numS_be8 _ (by omega) (by omega)]
theorem rec_ok (o : Ord4) (h : rightB o = true) : okB (recB o) = true := by
  obtain ⟨_, _, _, _, s4, s5⟩ := rec_seg o []
  rw [List.append_nil] at s4 s5
  have hb := sumB_bd (bodyB o) (bodyB_bytes o)
  unfold okB
  rw [s4, s5, numS_be2 _ (by omega) (by omega), rec_ord o h, h]
  simp
theorem takes_rec (acc : List Ord4) (o : Ord4) (r : List Int) (h : rightB o = true) : takes acc (recB o ++ r) = decide (lastN acc < o.n) := by
  unfold takes
  rw [rec_take, rec_ok o h, rec_ord o h]
  have : 28 ≤ (recB o ++ r).length := by rw [List.length_append, recB_len]; omega
  rw [decide_eq_true this, Bool.true_and, Bool.true_and]
/-- The bytes of orders. -/
def recs (l : List Ord4) : List Int := l.flatMap recB
theorem recs_len (l : List Ord4) : (recs l).length = 28 * l.length := by
  induction l with
  | nil => rfl
  | cons o r ih => simp [recs, recB_len] at *; omega
theorem recs_app (l m : List Ord4) : recs (l ++ m) = recs l ++ recs m := by simp [recs]
theorem recs_one (o : Ord4) : recs [o] = recB o := by simp [recs]
theorem recs_bytes (l : List Ord4) : Bytes (recs l) := by
  intro b hb
  simp only [recs, List.mem_flatMap] at hb
  obtain ⟨o, _, hb⟩ := hb
  exact recB_bytes o b hb
/-- Orders that are right, with numbers that grow from n on. -/
def Grow : Int → List Ord4 → Prop
  | _, [] => True
  | n, o :: r => rightB o = true ∧ n < o.n ∧ Grow o.n r
theorem lastN_app (l m : List Ord4) : lastN (l ++ m) = if m = [] then lastN l else lastN m := by
  cases m with
  | nil => simp
  | cons o r =>
    rw [if_neg (by simp)]
    unfold lastN
    rw [List.getLast?_append]
    cases h : (o :: r).getLast? with
    | none => simp at h
    | some x => rfl
theorem Grow.snoc {n : Int} {l : List Ord4} {o : Ord4} (h : Grow n l) (ho : rightB o = true) (hl : (if l = [] then n else lastN l) < o.n) : Grow n (l ++ [o]) := by
  induction l generalizing n with
  | nil => exact ⟨ho, by simpa using hl, trivial⟩
  | cons x r ih =>
    refine ⟨h.1, h.2.1, ih h.2.2 ?_⟩
    rw [if_neg (by simp)] at hl
    by_cases hr : r = []
    · subst hr
      simpa [lastN] using hl
    · rw [if_neg hr]
      have : lastN (x :: r) = lastN r := by
        have := lastN_app [x] r
        rw [if_neg hr] at this
        exact this
      rwa [this] at hl
theorem Grow.take {n : Int} {l : List Ord4} (h : Grow n l) (k : Nat) : Grow n (l.take k) := by
  induction l generalizing n k with
  | nil => simp [Grow]
  | cons x r ih =>
    cases k with
    | zero => trivial
    | succ k => exact ⟨h.1, h.2.1, ih h.2.2 k⟩
theorem ordsA_recs (l : List Ord4) : ∀ (k : Nat) (acc : List Ord4) (junk : List Int), Grow (lastN acc) l → ordsA (l.length + k) acc (recs l ++ junk) = ordsA k (acc ++ l) junk := by
  induction l with
  | nil => intro k acc junk _; simp [recs]
  | cons o r ih =>
    intro k acc junk h
    have e1 : recs (o :: r) ++ junk = recB o ++ (recs r ++ junk) := by simp [recs]
    rw [e1, show (o :: r).length + k = (r.length + k) + 1 from by simp; omega]
    unfold ordsA
    rw [takes_rec acc o _ h.1, decide_eq_true h.2.1, if_pos rfl, rec_take, rec_ord o h.1, List.drop_left' (recB_len o), ih k (acc ++ [o]) junk (by rw [lastN_snoc]; exact h.2.2), List.append_assoc]
    exact (congrArg (fun q => ordsA k q junk) (by simp : acc ++ ([o] ++ r) = acc ++ o :: r)).trans (by cases k <;> rfl)
theorem ordsB_recs (l : List Ord4) (junk : List Int) (h : Grow 0 l) (hj : takes l junk = false) : ordsB (recs l ++ junk) = (l, junk) := by
  unfold ordsB
  have e : (recs l ++ junk).length = l.length + (27 * l.length + junk.length) := by rw [List.length_append, recs_len]; omega
  rw [e, ordsA_recs l _ [] junk h, List.nil_append, ordsA_stop _ _ _ hj]
theorem ordsB_all (l : List Ord4) (h : Grow 0 l) : ordsB (recs l) = (l, []) := by
  have := ordsB_recs l [] h (takes_short _ _ (by simp))
  rwa [List.append_nil] at this
/-- The first bytes of orders. -/
theorem recs_take (l : List Ord4) (k : Nat) : ∃ junk, (recs l).take k = recs (l.take (k / 28)) ++ junk ∧ junk.length < 28 := by
  induction l generalizing k with
  | nil => exact ⟨[], by simp [recs], by simp⟩
  | cons o r ih =>
    have e1 : recs (o :: r) = recB o ++ recs r := by simp [recs]
    by_cases hk : k < 28
    · refine ⟨(recB o).take k, ?_, by rw [List.length_take]; omega⟩
      rw [show k / 28 = 0 from by omega, e1, List.take_append_of_le_length (by rw [recB_len]; omega)]
      simp [recs]
    · obtain ⟨junk, h1, h2⟩ := ih (k - 28)
      refine ⟨junk, ?_, h2⟩
      have e2 : k / 28 = (k - 28) / 28 + 1 := by omega
      have e3 : k = 28 + (k - 28) := by omega
      rw [e2, e1]
      conv => lhs; rw [e3]
      have e4 : (recB o ++ recs r).take (28 + (k - 28)) = recB o ++ (recs r).take (k - 28) := by
        have := List.take_length_add_append (l₁ := recB o) (l₂ := recs r) (i := k - 28)
        rwa [recB_len] at this
      rw [e4, h1]
      simp [recs]
theorem ordsB_take (l : List Ord4) (k : Nat) (h : Grow 0 l) : (ordsB ((recs l).take k)).1 = l.take (k / 28) := by
  obtain ⟨junk, h1, h2⟩ := recs_take l k
  rw [h1, ordsB_recs _ junk (h.take _) (takes_short _ _ h2)]
theorem fixB_take (l : List Ord4) (k : Nat) (h : Grow 0 l) : fixB ((recs l).take k) = recs (l.take (k / 28)) := by
  obtain ⟨junk, h1, h2⟩ := recs_take l k
  unfold fixB
  rw [h1, ordsB_recs _ junk (h.take _) (takes_short _ _ h2), List.length_append]
  exact List.take_left' (by show _ = _ + junk.length - junk.length; omega)
/-! A changed byte. -/
theorem sum_step (n m b : Int) (hn : 0 ≤ n ∧ n < 65521) (hm : 0 ≤ m ∧ m < 65521) (h : n ≠ m) : (31 * n + b + 1) % 65521 ≠ (31 * m + b + 1) % 65521 := by
  intro e
  omega
theorem sum_far : ∀ (l : List Int) (n m : Int), 0 ≤ n ∧ n < 65521 → 0 ≤ m ∧ m < 65521 → n ≠ m → l.foldl (fun n b => (31 * n + b + 1) % 65521) n ≠ l.foldl (fun n b => (31 * n + b + 1) % 65521) m
  | [], _, _, _, _, h => h
  | b :: r, n, m, hn, hm, h => sum_far r _ _ (show 0 ≤ (31 * n + b + 1) % 65521 ∧ (31 * n + b + 1) % 65521 < 65521 by omega) (show 0 ≤ (31 * m + b + 1) % 65521 ∧ (31 * m + b + 1) % 65521 < 65521 by omega) (sum_step n m b hn hm h)
theorem sumB_set (p s : List Int) (x y : Int) (hp : Bytes p) (hx : 0 ≤ x ∧ x ≤ 255) (hy : 0 ≤ y ∧ y ≤ 255) (h : x ≠ y) : sumB (p ++ x :: s) ≠ sumB (p ++ y :: s) := by
  have hb := sumB_bd p hp
  unfold sumB at *
  rw [List.foldl_append, List.foldl_append, List.foldl_cons, List.foldl_cons]
  generalize List.foldl (fun n b => (31 * n + b + 1) % 65521) 40503 p = q at *
  exact sum_far s _ _ (by omega) (by omega) (by omega)
theorem numS_two (x y : Int) (hx : 0 ≤ x ∧ x ≤ 255) (hy : 0 ≤ y ∧ y ≤ 255) : numS [x, y] = 256 * x + y := by
  simp [numS, numB, wrap64]
  omega
theorem set_split (l : List Int) (k : Nat) (y : Int) (h : k < l.length) : ∃ p x s, l = p ++ x :: s ∧ p.length = k ∧ l.set k y = p ++ y :: s ∧ x = l[k] := by
  refine ⟨l.take k, l[k], l.drop (k + 1), ?_, by rw [List.length_take]; omega, ?_, rfl⟩
  · rw [← List.drop_eq_getElem_cons h, List.take_append_drop]
  · rw [List.set_eq_take_append_cons_drop, if_pos h]
theorem rec_bad (o : Ord4) (k : Nat) (y : Int) (hk : k < 28) (hy : 0 ≤ y ∧ y ≤ 255) (hne : ∀ h : k < (recB o).length, (recB o)[k] ≠ y) : okB ((recB o).set k y) = false := by
  have hl : k < (recB o).length := by rw [recB_len]; exact hk
  have hsb := sumB_bd (bodyB o) (bodyB_bytes o)
  have hbe : be (sumB (bodyB o)) 2 = [sumB (bodyB o) / 256 % 256, sumB (bodyB o) % 256] := by simp [be]
  suffices numS (seg ((recB o).set k y) 4) ≠ sumB (((recB o).set k y).take 26) by
    unfold okB
    simp [this]
  by_cases h26 : k < 26
  · have e1 : (recB o).set k y = (bodyB o).set k y ++ be (sumB (bodyB o)) 2 := by
      unfold recB
      rw [List.set_append_left _ _ (by rw [bodyB_len]; exact h26)]
    have l1 : ((bodyB o).set k y).length = 26 := by rw [List.length_set, bodyB_len]
    have e2 : seg ((recB o).set k y) 4 = be (sumB (bodyB o)) 2 := by
      rw [e1]
      show ((_ ++ _ : List Int).drop 26).take 2 = _
      rw [List.drop_left' l1, List.take_of_length_le (by rw [be_len]; omega)]
    have e3 : ((recB o).set k y).take 26 = (bodyB o).set k y := by rw [e1, List.take_left' l1]
    rw [e2, e3, numS_be2 _ (by omega) (by omega)]
    obtain ⟨p, x, s, h1, h2, h3, h4⟩ := set_split (bodyB o) k y (by rw [bodyB_len]; exact h26)
    have hx : x ≠ y := by
      have := hne hl
      have e5 : (recB o)[k] = (bodyB o)[k]'(by rw [bodyB_len]; exact h26) := by
        unfold recB
        exact List.getElem_append_left _
      rw [e5, ← h4] at this
      exact this
    have hbo := bodyB_bytes o
    rw [h3]
    conv => lhs; rw [h1]
    rw [h1] at hbo
    exact sumB_set p s x y (fun b hb => hbo b (by simp [hb])) (hbo x (by simp)) hy hx
  · have e1 : (recB o).set k y = bodyB o ++ (be (sumB (bodyB o)) 2).set (k - 26) y := by
      unfold recB
      rw [List.set_append_right _ _ (by rw [bodyB_len]; omega), bodyB_len]
    have e2 : seg ((recB o).set k y) 4 = (be (sumB (bodyB o)) 2).set (k - 26) y := by
      rw [e1]
      show ((_ ++ _ : List Int).drop 26).take 2 = _
      rw [List.drop_left' (bodyB_len o), List.take_of_length_le (by rw [List.length_set, be_len]; omega)]
    have e3 : ((recB o).set k y).take 26 = bodyB o := by rw [e1, List.take_left' (bodyB_len o)]
    rw [e2, e3, hbe]
    have hne2 := hne hl
    have e5 : (recB o)[k] = (be (sumB (bodyB o)) 2)[k - 26]'(by rw [be_len]; omega) := by
      have h1 : (recB o)[k]? = (be (sumB (bodyB o)) 2)[k - 26]? := by
        unfold recB
        rw [List.getElem?_append_right (by rw [bodyB_len]; omega), bodyB_len]
      rw [List.getElem?_eq_getElem hl, List.getElem?_eq_getElem (by rw [be_len]; omega)] at h1
      injection h1
    rw [e5] at hne2
    generalize sumB (bodyB o) = t at *
    rcases (show k - 26 = 0 ∨ k - 26 = 1 by omega) with h | h
    · have hq : t / 256 % 256 ≠ y := by
        have : (be t 2)[k - 26]'(by rw [be_len]; omega) = t / 256 % 256 := by simp [h, hbe]
        rwa [this] at hne2
      rw [h]
      show numS [y, t % 256] ≠ t
      rw [numS_two y (t % 256) hy (by omega)]
      omega
    · have hq : t % 256 ≠ y := by
        have : (be t 2)[k - 26]'(by rw [be_len]; omega) = t % 256 := by simp [h, hbe]
        rwa [this] at hne2
      rw [h]
      show numS [t / 256 % 256, y] ≠ t
      rw [numS_two (t / 256 % 256) y (by omega) hy]
      omega
end Go.Proofs.Ytbkfdpdcnjecbaa
