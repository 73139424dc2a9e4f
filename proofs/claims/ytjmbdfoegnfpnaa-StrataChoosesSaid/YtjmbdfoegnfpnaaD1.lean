/- Contracts: Mix, Seal, Ticket (draw, and its reference). -/
import Derived.Test.YtjmbdfoegnfpnaaB
namespace Go.Proofs.Ytjmbdfoegnfpnaa
open Go.RowKit
set_option linter.unusedVariables false

/-- Exclusive or of two numbers of 64 bits. -/
def x64 (a b : Int) : Int := bits BinOp.xor IntKind.u64 a b
def mix1 (x : Int) : Int := IntKind.u64.wrap (x + 11400714819323198485)
def mix2 (a : Int) : Int := IntKind.u64.wrap (x64 a (a / 1073741824) * 13787848793156543929)
def mix3 (a : Int) : Int := IntKind.u64.wrap (x64 a (a / 134217728) * 10723151780598845931)
def mix4 (a : Int) : Int := x64 a (a / 2147483648)
def mixI (x : Int) : Int := mix4 (mix3 (mix2 (mix1 x)))
def sealI (p a b : Int) : Int := mixI (x64 (mixI a) (mixI (IntKind.u64.wrap (IntKind.u64.wrap (b + IntKind.u64.wrap p) + 1))))
def tickI (s u : Int) : Int := mixI (x64 s (mixI (IntKind.u64.wrap u)))

theorem mix_any (x : Int) (w : World) : Calls Try.prog 42 #[.int .u64 x] w fun e w' => e = .returned (.int .u64 (mixI x)) ∧ w' = w := by
  have H : Hid (mixI x = mix4 (mix3 (mix2 (mix1 x)))) := Lib.hid rfl
  generalize mixI x = r at *
  go_enter Try.func42, Try.ntmps42
  go_wp2
  go_ret
  exact ⟨by rw [H.out]; rfl, rfl⟩
theorem tick_any (s u : Int) (w : World) : Calls Try.prog 58 #[.int .u64 s, .int .i64 u] w fun e w' => e = .returned (.int .u64 (tickI s u)) ∧ w' = w := by
  have H : Hid (tickI s u = mixI (x64 s (mixI (IntKind.u64.wrap u)))) := Lib.hid rfl
  have H1 := Lib.hid (fun W => mix_any (IntKind.u64.wrap u) W)
  generalize tickI s u = r at *
  generalize hy : mixI (IntKind.u64.wrap u) = y at *
  have H3 := Lib.hid (fun W => mix_any (x64 s y) W)
  rw [← H.out] at H3
  clear H hy
  go_enter Try.func58, Try.ntmps58
  go_wp2_with (first
    | (go_at_call 42; refine (H1.out _).mono ?_; rintro e w1 ⟨rfl, rfl⟩; clear H1)
    | (go_at_call 42; refine (H3.out _).mono ?_; rintro e w1 ⟨rfl, rfl⟩)
    | fail)
  go_ret
  exact ⟨rfl, rfl⟩

theorem mixR_any (x : Int) (w : World) : Calls Try.prog 46 #[.int .u64 x] w fun e w' => e = .returned (.int .u64 (mixI x)) ∧ w' = w := by
  have H : Hid (mixI x = mix4 (mix3 (mix2 (mix1 x)))) := Lib.hid rfl
  generalize mixI x = r at *
  go_enter Try.func46, Try.ntmps46
  go_wp2
  go_ret
  exact ⟨by rw [H.out]; rfl, rfl⟩
theorem tickR_any (s u : Int) (w : World) : Calls Try.prog 61 #[.int .u64 s, .int .i64 u] w fun e w' => e = .returned (.int .u64 (tickI s u)) ∧ w' = w := by
  have H : Hid (tickI s u = mixI (x64 s (mixI (IntKind.u64.wrap u)))) := Lib.hid rfl
  have H1 := Lib.hid (fun W => mixR_any (IntKind.u64.wrap u) W)
  generalize tickI s u = r at *
  generalize hy : mixI (IntKind.u64.wrap u) = y at *
  have H3 := Lib.hid (fun W => mixR_any (x64 s y) W)
  rw [← H.out] at H3
  clear H hy
  go_enter Try.func61, Try.ntmps61
  go_wp2_with (first
    | (go_at_call 46; refine (H1.out _).mono ?_; rintro e w1 ⟨rfl, rfl⟩; clear H1)
    | (go_at_call 46; refine (H3.out _).mono ?_; rintro e w1 ⟨rfl, rfl⟩)
    | fail)
  go_ret
  exact ⟨rfl, rfl⟩
end Go.Proofs.Ytjmbdfoegnfpnaa
