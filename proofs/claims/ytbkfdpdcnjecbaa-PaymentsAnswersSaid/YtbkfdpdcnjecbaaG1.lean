/- Contract: get (reference): walk. -/
import Derived.Test.YtbkfdpdcnjecbaaGe
import Derived.Outline
namespace Go.Proofs.Ytbkfdpdcnjecbaa
open Go.RowKit
set_option linter.unusedVariables false
/-- The number that bytes are, as an int. -/
def numS (l : List Int) : Int := wrap64 (numB l)
set_option maxHeartbeats 400000 in
theorem getR_any (A : Option Addr) (n c : Nat) (xs : List Int) (w : World) (hx : xs.length = n) (hn : n ≤ 8) (hb : Bytes xs) (hA : Lies w A n (xs.map (.int .u8))) :
    Calls Try.prog 41 #[.slice A n c] w fun e w' => e = .returned (.int .i64 (numS xs)) ∧ w = w' := by
  have Hx := Lib.hid hx
  have HA := Lib.hid hA
  clear hx hA
  go_enter Try.func41, Try.ntmps41
  go_wp2
  go_loop [3, 4] (fun s i => ∃ k : Nat, k ≤ n ∧ i = .int .i64 (k : Int) ∧ s = .int .u64 (numB (xs.take k))) (fun _ i => n - (intOf i).toNat)
  case atStart => exact ⟨0, Nat.zero_le _, rfl, rfl⟩
  case round =>
    obtain ⟨k, hk, rfl, rfl⟩ := hrel
    have hbd := numB_bd k (xs.take k) (by rw [List.length_take, Hx.out]; omega) (hb.take k)
    by_cases hkn : k < n
    · have hl : k < xs.length := by have := Hx.out; omega
      obtain ⟨b, off, rfl, hbl, c1⟩ := lies_u8 HA.out k hkn hl
      have hby := hb xs[k] (List.getElem_mem hl)
      have Hs : Hid (numB (xs.take (k + 1)) = 256 * numB (xs.take k) + xs[k]) := by
        show numB (xs.take (k + 1)) = _
        rw [List.take_succ_eq_append_getElem hl, numB_snoc]
      have h7 := pow256_le k (by omega)
      have Ho := Lib.hid (or_u64 (numB (xs.take k)) xs[k] hbd.1 (by omega) hby.1 hby.2)
      clear hbd h7
      generalize xs[k] = x at *
      generalize numB (xs.take k) = s at *
      go_wp2
      go_round
      case rel => exact ⟨k + 1, by omega, by go_num, by rw [Hs.out, Ho.out]⟩
      case measure => simp [intOf]; omega
    · have e1 : Hid (xs.take k = xs) := List.take_of_length_le (by have := Hx.out; omega)
      rw [e1.out]
      clear hbd
      go_wp2
      go_ret
      exact ⟨rfl, rfl⟩
end Go.Proofs.Ytbkfdpdcnjecbaa
