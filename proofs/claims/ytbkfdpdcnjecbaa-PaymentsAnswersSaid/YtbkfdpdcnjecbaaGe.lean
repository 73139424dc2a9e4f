/- The number that bytes are; a shift by a byte and an or with a byte (plain). -/
import Derived.Test.YtbkfdpdcnjecbaaP2
import Derived.Laws.BitsAllLaws
namespace Go.Proofs.Ytbkfdpdcnjecbaa
open Go.RowKit
set_option linter.unusedVariables false

/-- The number that bytes are, the most significant first. -/
def numB (l : List Int) : Int := l.foldl (fun n b => 256 * n + b) 0
theorem numB_snoc (l : List Int) (b : Int) : numB (l ++ [b]) = 256 * numB l + b := by simp [numB]
theorem numB_nil : numB [] = 0 := rfl
theorem numB_bd : ∀ (k : Nat) (l : List Int), l.length = k → Bytes l → 0 ≤ numB l ∧ numB l < 256 ^ k := by
  intro k
  induction k with
  | zero => intro l h _; rw [List.length_eq_zero_iff.1 h]; simp [numB]
  | succ k ih =>
    intro l h hb
    obtain ⟨m, b, rfl⟩ : ∃ m b, l = m ++ [b] := ⟨l.dropLast, l.getLast (by intro e; simp [e] at h), (List.dropLast_concat_getLast _).symm⟩
    rw [numB_snoc]
    have h1 := ih m (by simp at h; omega) (fun x hx => hb x (by simp [hx]))
    have h2 := hb b (by simp)
    rw [Int.pow_succ]
    omega
theorem or_nat (s x : Nat) (hx : x < 256) : (s * 256 % 18446744073709551616) ||| x = (256 * s + x) % 18446744073709551616 := by
  have e : s * 256 % 18446744073709551616 = (s % 72057594037927936) <<< 8 := by rw [Nat.shiftLeft_eq]; omega
  rw [e, ← Nat.shiftLeft_add_eq_or_of_lt hx, Nat.shiftLeft_eq]
  omega
theorem ofInt_wrap (k : IntKind) (hk : k.bits = 64) (n : Int) : BitVec.ofInt k.bits (k.wrap n) = BitVec.ofInt k.bits n := by
  apply BitVec.eq_of_toNat_eq
  have hw : k.wrap n % 18446744073709551616 = n % 18446744073709551616 := by
    unfold IntKind.wrap
    simp only [hk]
    split <;> omega
  simp only [BitVec.toNat_ofInt, hk]
  have e : ((2 ^ 64 : Nat) : Int) = 18446744073709551616 := by decide
  rw [e, hw]
theorem wrap_mod64 (k : IntKind) (hk : k.bits = 64) (n : Nat) : k.wrap ((n % 18446744073709551616 : Nat) : Int) = k.wrap (n : Int) := by
  unfold IntKind.wrap
  simp only [hk]
  have e : ((n % 18446744073709551616 : Nat) : Int) % 2 ^ 64 = (n : Int) % 2 ^ 64 := by omega
  rw [e]
theorem toNat_of64 (k : IntKind) (hk : k.bits = 64) (n : Nat) : (BitVec.ofInt k.bits (n : Int)).toNat = n % 18446744073709551616 := by
  rw [BitVec.ofInt_natCast, BitVec.toNat_ofNat, hk]
theorem or_byte (k : IntKind) (hk : k.bits = 64) (s x : Int) (hs : 0 ≤ s) (h0 : 0 ≤ x) (h1 : x ≤ 255) : bits .or k (k.wrap (s * 256)) x = k.wrap (256 * s + x) := by
  obtain ⟨s, rfl⟩ := Int.eq_ofNat_of_zero_le hs
  obtain ⟨x, rfl⟩ := Int.eq_ofNat_of_zero_le h0
  show k.wrap ((BitVec.ofInt k.bits (k.wrap (s * 256)) ||| BitVec.ofInt k.bits x).toNat : Int) = _
  rw [BitVec.toNat_or, ofInt_wrap k hk, show ((s : Int) * 256) = ((s * 256 : Nat) : Int) from by omega, toNat_of64 k hk, toNat_of64 k hk, Nat.mod_eq_of_lt (show x < 18446744073709551616 by omega), or_nat s x (by omega), wrap_mod64 k hk]
  rfl
theorem wrap_idem (k : IntKind) (hk : k.bits = 64) (s : Int) : k.wrap (k.wrap s * 256) = k.wrap (s * 256) := by
  have hw : k.wrap s % 18446744073709551616 = s % 18446744073709551616 := by
    unfold IntKind.wrap
    simp only [hk]
    split <;> omega
  generalize k.wrap s = q at *
  unfold IntKind.wrap
  simp only [hk]
  have e : q * 256 % 2 ^ 64 = s * 256 % 2 ^ 64 := by omega
  rw [e]
theorem or_i64 (s x : Int) (hs : 0 ≤ s) (h0 : 0 ≤ x) (h1 : x ≤ 255) : bits .or .i64 (IntKind.i64.wrap (IntKind.i64.wrap s * 256)) x = IntKind.i64.wrap (256 * s + x) := by
  rw [wrap_idem .i64 rfl, or_byte .i64 rfl s x hs h0 h1]
theorem or_u64 (s x : Int) (hs : 0 ≤ s) (h : s < 72057594037927936) (h0 : 0 ≤ x) (h1 : x ≤ 255) : bits .or .u64 (IntKind.u64.wrap (s * 256)) x = 256 * s + x := by
  rw [or_byte .u64 rfl s x hs h0 h1]
  simp [IntKind.wrap, IntKind.bits, IntKind.signed]
  omega
theorem pow256_le (k : Nat) (h : k ≤ 7) : (256 : Int) ^ k ≤ 72057594037927936 := by
  rcases (show k = 0 ∨ k = 1 ∨ k = 2 ∨ k = 3 ∨ k = 4 ∨ k = 5 ∨ k = 6 ∨ k = 7 by omega) with rfl | rfl | rfl | rfl | rfl | rfl | rfl | rfl <;> decide
end Go.Proofs.Ytbkfdpdcnjecbaa
