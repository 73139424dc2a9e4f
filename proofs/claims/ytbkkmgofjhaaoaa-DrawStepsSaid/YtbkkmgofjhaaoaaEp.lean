/- Plain: draws by what stands at each party; what the steps make of them. -/
import Derived.Test.YtbkkmgofjhaaoaaDY
namespace Go.Proofs.Ytbkkmgofjhaaoaa
open Go.RowKit
set_option linter.unusedVariables false
set_option linter.unusedSimpArgs false

theorem x64_bd (a b : Int) : 0 ≤ x64 a b ∧ x64 a b < 18446744073709551616 := by
  unfold x64 bits
  rw [IntKind.wrap_u64]
  omega
theorem x64_zero (a : Int) (h0 : 0 ≤ a) (h1 : a < 18446744073709551616) : x64 a 0 = a := by
  have key : (BitVec.ofInt 64 a ^^^ BitVec.ofInt 64 0).toNat = a.toNat := by
    rw [show BitVec.ofInt 64 0 = 0#64 from rfl, BitVec.xor_zero, BitVec.toNat_ofInt]
    omega
  unfold x64 bits
  rw [IntKind.wrap_u64]
  show (((BitVec.ofInt 64 a ^^^ BitVec.ofInt 64 0).toNat : Nat) : Int) % 18446744073709551616 = a
  rw [key]
  omega
theorem fold64_bd (l : List Int) (a : Int) (h0 : 0 ≤ a ∧ a < 18446744073709551616) : 0 ≤ l.foldl x64 a ∧ l.foldl x64 a < 18446744073709551616 := by
  induction l generalizing a with
  | nil => exact h0
  | cons x l ih => exact ih _ (x64_bd a x)

def upd {α : Type} (f : Nat → α) (k : Nat) (v : α) : Nat → α := fun i => if i = k then v else f i
theorem upd_same {α : Type} (f : Nat → α) (k : Nat) (v : α) : upd f k v k = v := if_pos rfl
theorem upd_ne {α : Type} (f : Nat → α) {k i : Nat} (v : α) (h : i ≠ k) : upd f k v i = f i := if_neg h
theorem set_range {α : Type} (f : Nat → α) (n k : Nat) (v : α) : ((List.range n).map f).set k v = (List.range n).map (upd f k v) := by
  apply List.ext_getElem?
  intro i
  rw [List.getElem?_set]
  simp only [List.length_map, List.length_range, List.getElem?_map]
  by_cases hi : i < n
  · rw [List.getElem?_range hi]
    by_cases hk : k = i
    · subst hk; simp [hi, upd]
    · simp [hk, upd, Ne.symm hk]
  · rw [List.getElem?_eq_none (by simpa using hi)]
    by_cases hk : k = i
    · subst hk; simp [hi]
    · simp [hk]
theorem getD_range {α : Type} (f : Nat → α) (n i : Nat) (d : α) (h : i < n) : ((List.range n).map f).getD i d = f i := by
  simp [List.getD_eq_getElem?_getD, List.getElem?_map, List.getElem?_range h]

/-- A draw by what stands at each party. -/
def dF (st : Int) (n : Nat) (a : Nat → Int) (b : Nat → Bool) (x : Nat → Int) (r : Nat → Bool) : Dr := ⟨st, (List.range n).map a, (List.range n).map b, (List.range n).map x, (List.range n).map r⟩
def Fine (st : Int) (n : Nat) (a : Nat → Int) (b : Nat → Bool) (x : Nat → Int) (r : Nat → Bool) : Prop := 1 ≤ st ∧ st ≤ 3 ∧ 1 ≤ n ∧ n ≤ 5 ∧ ∀ i, i < n → badAt st (a i) (b i) (x i) (r i) = false
theorem dF_congr {st : Int} {n : Nat} {a a' : Nat → Int} {b b' : Nat → Bool} {x x' : Nat → Int} {r r' : Nat → Bool} (ha : ∀ i, i < n → a i = a' i) (hb : ∀ i, i < n → b i = b' i) (hx : ∀ i, i < n → x i = x' i) (hr : ∀ i, i < n → r i = r' i) : dF st n a b x r = dF st n a' b' x' r' := by
  unfold dF
  rw [List.map_congr_left (fun i hi => ha i (List.mem_range.1 hi)), List.map_congr_left (fun i hi => hb i (List.mem_range.1 hi)), List.map_congr_left (fun i hi => hx i (List.mem_range.1 hi)), List.map_congr_left (fun i hi => hr i (List.mem_range.1 hi))]
section
variable {st : Int} {n : Nat} {a : Nat → Int} {b : Nat → Bool} {x : Nat → Int} {r : Nat → Bool}
theorem dF_check (h : Fine st n a b x r) : checkD (dF st n a b x r) = 0 := by
  obtain ⟨h1, h2, h3, h4, h5⟩ := h
  have hf : formD (dF st n a b x r) = true := by
    unfold formD dF
    simp only [List.length_map, List.length_range]
    rw [decide_eq_true h1, decide_eq_true h2, decide_eq_true h3, decide_eq_true h4]
    simp
  have hb : (List.range (dF st n a b x r).se.length).any (badD (dF st n a b x r)) = false := by
    rw [List.any_eq_false]
    intro i hi
    have hi' : i < n := by simpa [dF] using hi
    unfold badD dF
    simp only
    rw [getD_range _ _ _ _ hi', getD_range _ _ _ _ hi', getD_range _ _ _ _ hi', getD_range _ _ _ _ hi', h5 i hi']
    simp
  unfold checkD
  rw [hf, hb]
  rfl
theorem dF_usable (h : Fine st n a b x r) (s : Int) : usableD (dF st n a b x r) s = if st = s then 0 else 61 := by
  unfold usableD
  rw [dF_check h]
  rfl
theorem dF_next (h : Fine st n a b x r) : nextD (dF st n a b x r) st = (dF (st + 1) n a b x r, 0) := by
  unfold nextD
  rw [dF_usable h, if_pos rfl, if_pos rfl]
  rfl
theorem dF_len : (dF st n a b x r).sd.length = n := by simp [dF]
theorem dF_commit (h : Fine 1 n a b x r) (k : Nat) (hk : k < n) (hb : b k = false) (s : Int) : commitD (dF 1 n a b x r) (k : Int) s = (dF 1 n (upd a k s) (upd b k true) x r, 0) := by
  have hn : noSeal (dF 1 n a b x r) (k : Int) = false := by
    unfold noSeal
    rw [dF_len]
    have : (dF 1 n a b x r).sd.getD (k : Int).toNat true = false := by rw [Int.toNat_natCast]; exact (getD_range b n k true hk).trans hb
    rw [this]
    simp
    omega
  unfold commitD
  rw [dF_usable h, if_pos rfl, if_pos rfl, hn, if_neg (by simp), Int.toNat_natCast]
  unfold dF
  simp only [set_range]
theorem dF_phase (h : Fine st n a b x r) (hst : st ≠ 1) (k s : Int) : commitD (dF st n a b x r) k s = (dF st n a b x r, 61) := by
  unfold commitD
  rw [dF_usable h, if_neg hst]
  rfl
theorem dF_show (h : Fine 2 n a b x r) (k : Nat) (hk : k < n) (hb : b k = true) (hr : r k = false) : noShow (dF 2 n a b x r) (k : Int) = false := by
  unfold noShow
  rw [dF_len]
  have h1 : (dF 2 n a b x r).sd.getD (k : Int).toNat false = true := by rw [Int.toNat_natCast]; exact (getD_range b n k false hk).trans hb
  have h2 : (dF 2 n a b x r).rv.getD (k : Int).toNat true = false := by rw [Int.toNat_natCast]; exact (getD_range r n k true hk).trans hr
  rw [h1, h2]
  simp
  omega
theorem dF_reveal (h : Fine 2 n a b x r) (k : Nat) (hk : k < n) (hb : b k = true) (hr : r k = false) (s t : Int) (ha : sealI (k : Int) s t = a k) : revealD (dF 2 n a b x r) (k : Int) s t = (dF 2 n a b (upd x k s) (upd r k true), 0) := by
  have h3 : (dF 2 n a b x r).se.getD (k : Int).toNat 0 = a k := by rw [Int.toNat_natCast]; exact getD_range a n k 0 hk
  unfold revealD
  rw [dF_usable h, if_pos rfl, if_pos rfl, dF_show h k hk hb hr, if_neg (by simp), h3, if_pos ha, Int.toNat_natCast]
  unfold dF
  simp only [set_range]
theorem dF_refuse (h : Fine 2 n a b x r) (k : Nat) (hk : k < n) (hb : b k = true) (hr : r k = false) (s t : Int) (ha : sealI (k : Int) s t ≠ a k) : revealD (dF 2 n a b x r) (k : Int) s t = (dF 2 n a b x r, 62) := by
  have h3 : (dF 2 n a b x r).se.getD (k : Int).toNat 0 = a k := by rw [Int.toNat_natCast]; exact getD_range a n k 0 hk
  unfold revealD
  rw [dF_usable h, if_pos rfl, if_pos rfl, dF_show h k hk hb hr, if_neg (by simp), h3, if_neg ha]
theorem dF_seed (h : Fine 3 n a b x r) : seedP (dF 3 n a b x r) = (mixI (((List.range n).map x).foldl x64 0), silentP ((List.range n).map r) n, 0) := by
  unfold seedP
  rw [dF_usable h, if_pos rfl, if_pos rfl]
  have : (dF 3 n a b x r).sx.length = n := by simp [dF]
  rw [this]
  rfl
end
/-- What party i sealed. -/
def slF (S T : List Int) (i : Nat) : Int := sealI (i : Int) (S.getD i 0) (T.getD i 0)
/-- A draw in which those of B have sealed. -/
def pD (n : Nat) (S T : List Int) (B : Nat → Bool) : Dr := dF 1 n (fun i => if B i then slF S T i else 0) B (fun _ => 0) (fun _ => false)
theorem pD_fine {n : Nat} (S T : List Int) (B : Nat → Bool) (h1 : 1 ≤ n) (h4 : n ≤ 4) : Fine 1 n (fun i => if B i then slF S T i else 0) B (fun _ => 0) (fun _ => false) := by
  refine ⟨by omega, by omega, h1, by omega, fun i _ => ?_⟩
  by_cases hb : B i = true
  · simp [badAt, hb]
  · simp [badAt, hb]
theorem pD_new (n : Nat) (S T : List Int) : newD n = pD n S T (fun _ => false) := by
  unfold newD pD dF
  simp [List.map_const']
theorem pD_congr {n : Nat} {S T S' T' : List Int} {B B' : Nat → Bool} (hB : ∀ i, i < n → B i = B' i) (hS : ∀ i, i < n → B' i = true → slF S T i = slF S' T' i) : pD n S T B = pD n S' T' B' := by
  unfold pD
  refine dF_congr (fun i hi => ?_) hB (fun _ _ => rfl) (fun _ _ => rfl)
  rw [hB i hi]
  by_cases hb : B' i = true
  · rw [if_pos hb, if_pos hb, hS i hi hb]
  · rw [if_neg hb, if_neg hb]
theorem pD_commit {n : Nat} (S T : List Int) (B : Nat → Bool) (h1 : 1 ≤ n) (h4 : n ≤ 4) (k : Nat) (hk : k < n) (hb : B k = false) : commitD (pD n S T B) (k : Int) (slF S T k) = (pD n S T (upd B k true), 0) := by
  unfold pD
  rw [dF_commit (pD_fine S T B h1 h4) k hk hb]
  congr 1
  refine dF_congr (fun i hi => ?_) (fun _ _ => rfl) (fun _ _ => rfl) (fun _ _ => rfl)
  by_cases hik : i = k
  · subst hik; simp [upd]
  · simp [upd, hik]
/-- A draw in which all have sealed, and those of R revealed. -/
def oD (st : Int) (n : Nat) (S T : List Int) (R : Nat → Bool) : Dr := dF st n (slF S T) (fun _ => true) (fun i => if R i then S.getD i 0 else 0) R
theorem oD_fine {n : Nat} (st : Int) (S T : List Int) (R : Nat → Bool) (h1 : 1 ≤ n) (h4 : n ≤ 4) (hst : st = 2 ∨ st = 3) : Fine st n (slF S T) (fun _ => true) (fun i => if R i then S.getD i 0 else 0) R := by
  refine ⟨by omega, by omega, h1, by omega, fun i _ => ?_⟩
  have h : ¬ st = 1 := by omega
  by_cases hb : R i = true
  · simp [badAt, hb, h]
  · simp [badAt, hb]
theorem oD_congr {st : Int} {n : Nat} {S T : List Int} {R R' : Nat → Bool} (hR : ∀ i, i < n → R i = R' i) : oD st n S T R = oD st n S T R' := by
  unfold oD
  exact dF_congr (fun _ _ => rfl) (fun _ _ => rfl) (fun i hi => by rw [hR i hi]) hR
theorem pD_close {n : Nat} (S T : List Int) (B : Nat → Bool) (h1 : 1 ≤ n) (h4 : n ≤ 4) (hB : ∀ i, i < n → B i = true) : nextD (pD n S T B) 1 = (oD 2 n S T (fun _ => false), 0) := by
  have e : pD n S T B = dF 1 n (slF S T) (fun _ => true) (fun _ => 0) (fun _ => false) := by
    unfold pD
    exact dF_congr (fun i hi => by rw [hB i hi, if_pos rfl]) hB (fun _ _ => rfl) (fun _ _ => rfl)
  have f : Fine 1 n (slF S T) (fun _ => true) (fun _ => 0) (fun _ => false) := ⟨by omega, by omega, h1, by omega, fun i _ => by simp [badAt]⟩
  rw [e, dF_next f]
  unfold oD
  have e2 : dF (1 + 1) n (slF S T) (fun _ => true) (fun _ => 0) (fun _ => false) = dF 2 n (slF S T) (fun _ => true) (fun i => if (fun _ => false) i = true then S.getD i 0 else 0) (fun _ => false) :=
    dF_congr (fun _ _ => rfl) (fun _ _ => rfl) (fun i _ => by simp) (fun _ _ => rfl)
  rw [e2]
theorem oD_phase {n : Nat} (S T : List Int) (R : Nat → Bool) (h1 : 1 ≤ n) (h4 : n ≤ 4) (k s : Int) : commitD (oD 2 n S T R) k s = (oD 2 n S T R, 61) := dF_phase (oD_fine 2 S T R h1 h4 (.inl rfl)) (by omega) k s
theorem oD_reveal {n : Nat} (S T : List Int) (R : Nat → Bool) (h1 : 1 ≤ n) (h4 : n ≤ 4) (k : Nat) (hk : k < n) (hr : R k = false) : revealD (oD 2 n S T R) (k : Int) (S.getD k 0) (T.getD k 0) = (oD 2 n S T (upd R k true), 0) := by
  unfold oD
  rw [dF_reveal (oD_fine 2 S T R h1 h4 (.inl rfl)) k hk rfl hr _ _ rfl]
  congr 1
  refine dF_congr (fun _ _ => rfl) (fun _ _ => rfl) (fun i hi => ?_) (fun _ _ => rfl)
  by_cases hik : i = k
  · subst hik; simp [upd]
  · simp [upd, hik]
theorem oD_refuse {n : Nat} (S T : List Int) (R : Nat → Bool) (h1 : 1 ≤ n) (h4 : n ≤ 4) (k : Nat) (hk : k < n) (hr : R k = false) (s t : Int) (hs : sealI (k : Int) s t ≠ slF S T k) : revealD (oD 2 n S T R) (k : Int) s t = (oD 2 n S T R, 62) :=
  dF_refuse (oD_fine 2 S T R h1 h4 (.inl rfl)) k hk rfl hr s t hs
theorem oD_finish {n : Nat} (S T : List Int) (R : Nat → Bool) (h1 : 1 ≤ n) (h4 : n ≤ 4) : nextD (oD 2 n S T R) 2 = (oD 3 n S T R, 0) := dF_next (oD_fine 2 S T R h1 h4 (.inl rfl))
/-- The seeds of those who revealed. -/
def allF (S : List Int) (R : Nat → Bool) (j : Nat) : Int := ((List.range j).map fun i => if R i then S.getD i 0 else 0).foldl x64 0
def missF (R : Nat → Bool) (j : Nat) : List Int := ((List.range j).filter fun i => !R i).map Int.ofNat
theorem oD_seed {n : Nat} (S T : List Int) (R : Nat → Bool) (h1 : 1 ≤ n) (h4 : n ≤ 4) : seedP (oD 3 n S T R) = (mixI (allF S R n), missF R n, 0) := by
  unfold oD
  rw [dF_seed (oD_fine 3 S T R h1 h4 (.inr rfl))]
  unfold allF missF silentP
  congr 2
  congr 1
  apply List.filter_congr
  intro i hi
  rw [getD_range R n i true (List.mem_range.1 hi)]
theorem allF_bd (S : List Int) (R : Nat → Bool) (j : Nat) : 0 ≤ allF S R j ∧ allF S R j < 18446744073709551616 := fold64_bd _ 0 (by omega)
theorem allF_succ (S : List Int) (R : Nat → Bool) (j : Nat) : allF S R (j + 1) = x64 (allF S R j) (if R j then S.getD j 0 else 0) := by
  unfold allF
  rw [List.range_succ, List.map_append, List.foldl_append]
  rfl
theorem allF_congr {S : List Int} {R R' : Nat → Bool} {j : Nat} (h : ∀ i, i < j → R i = R' i) : allF S R j = allF S R' j := by
  unfold allF
  rw [List.map_congr_left (fun i hi => by rw [h i (List.mem_range.1 hi)])]
theorem missF_congr {R R' : Nat → Bool} {j : Nat} (h : ∀ i, i < j → R i = R' i) : missF R j = missF R' j := by
  unfold missF
  rw [List.filter_congr (fun i hi => by rw [h i (List.mem_range.1 hi)])]
theorem missF_succ (R : Nat → Bool) (j : Nat) : missF R (j + 1) = if R j then missF R j else missF R j ++ [(j : Int)] := by
  unfold missF
  rw [List.range_succ, List.filter_append, List.map_append, List.filter_cons, List.filter_nil]
  cases R j <;> simp
theorem missF_len (R : Nat → Bool) (j : Nat) : (missF R j).length ≤ j := by
  unfold missF
  rw [List.length_map]
  exact Nat.le_trans (List.length_filter_le _ _) (by simp)
theorem allF_full (S : List Int) (R : Nat → Bool) (n : Nat) (hS : S.length = n) (hR : ∀ i, i < n → R i = true) : allF S R n = S.foldl x64 0 := by
  unfold allF
  congr 1
  apply List.ext_getElem?
  intro i
  by_cases hi : i < n
  · simp [List.getElem?_map, List.getElem?_range hi, hR i hi, List.getD_eq_getElem?_getD, hS, hi]
  · rw [List.getElem?_eq_none (by simpa using hi), List.getElem?_eq_none (by omega)]
theorem missF_full (R : Nat → Bool) (n : Nat) (hR : ∀ i, i < n → R i = true) : missF R n = [] := by
  unfold missF
  rw [List.filter_eq_nil_iff.2 (fun i hi => by rw [hR i (List.mem_range.1 hi)]; simp)]
  rfl
end Go.Proofs.Ytbkkmgofjhaaoaa
