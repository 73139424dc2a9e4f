/- Contracts: Mix, Seal, Ticket (draw, and its reference). -/
import Derived.Test.YtbkkmgofjhaaoaaB
namespace Go.Proofs.Ytbkkmgofjhaaoaa
open Go.RowKit
set_option linter.unusedVariables false

/-- Exclusive or of two numbers of 64 bits. -/
def x64 (a b : Int) : Int := bits BinOp.xor IntKind.u64 a b
def mix1 (x : Int) : Int := IntKind.u64.wrap (x + 11400714819323198485)
def mix2 (a : Int) : Int := IntKind.u64.wrap (x64 a (a / 1073741824) * 13787848793156543929)
def mix3 (a : Int) : Int := IntKind.u64.wrap (x64 a (a / 134217728) * 10723151780598845931)
def mix4 (a : Int) : Int := x64 a (a / 2147483648)
def mixI (x : Int) : Int := mix4 (mix3 (mix2 (mix1 x)))
def sealI (p a b : Int) : Int := mixI (x64 (mixI a) (mixI (IntKind.u64.wrap (IntKind.u64.wrap (b + IntKind.u64.wrap p) + 1))))
def tickI (s u : Int) : Int := mixI (x64 s (mixI (IntKind.u64.wrap u)))

theorem mix_any (x : Int) (w : World) : Calls Try.prog 31 #[.int .u64 x] w fun e w' => e = .returned (.int .u64 (mixI x)) ∧ w' = w := by
  have H : Hid (mixI x = mix4 (mix3 (mix2 (mix1 x)))) := Lib.hid rfl
  generalize mixI x = r at *
  go_enter Try.func31, Try.ntmps31
  go_wp2
  go_ret
  exact ⟨by rw [H.out]; rfl, rfl⟩
theorem seal_any (p a b : Int) (w : World) : Calls Try.prog 33 #[.int .i64 p, .int .u64 a, .int .u64 b] w fun e w' => e = .returned (.int .u64 (sealI p a b)) ∧ w' = w := by
  have H : Hid (sealI p a b = mixI (x64 (mixI a) (mixI (IntKind.u64.wrap (IntKind.u64.wrap (b + IntKind.u64.wrap p) + 1))))) := Lib.hid rfl
  have H1 := Lib.hid (fun W => mix_any a W)
  have H2 := Lib.hid (fun W => mix_any (IntKind.u64.wrap (IntKind.u64.wrap (b + IntKind.u64.wrap p) + 1)) W)
  generalize sealI p a b = r at *
  generalize mixI a = x at *
  generalize hy : mixI (IntKind.u64.wrap (IntKind.u64.wrap (b + IntKind.u64.wrap p) + 1)) = y at *
  have H3 := Lib.hid (fun W => mix_any (x64 x y) W)
  rw [← H.out] at H3
  clear H hy
  go_enter Try.func33, Try.ntmps33
  go_wp2_with (first
    | (go_at_call 31; refine (H1.out _).mono ?_; rintro e w1 ⟨rfl, rfl⟩; clear H1)
    | (go_at_call 31; refine (H2.out _).mono ?_; rintro e w1 ⟨rfl, rfl⟩; clear H2)
    | (go_at_call 31; refine (H3.out _).mono ?_; rintro e w1 ⟨rfl, rfl⟩)
    | fail)
  go_ret
  exact ⟨rfl, rfl⟩
theorem tick_any (s u : Int) (w : World) : Calls Try.prog 35 #[.int .u64 s, .int .i64 u] w fun e w' => e = .returned (.int .u64 (tickI s u)) ∧ w' = w := by
  have H : Hid (tickI s u = mixI (x64 s (mixI (IntKind.u64.wrap u)))) := Lib.hid rfl
  have H1 := Lib.hid (fun W => mix_any (IntKind.u64.wrap u) W)
  generalize tickI s u = r at *
  generalize hy : mixI (IntKind.u64.wrap u) = y at *
  have H3 := Lib.hid (fun W => mix_any (x64 s y) W)
  rw [← H.out] at H3
  clear H hy
  go_enter Try.func35, Try.ntmps35
  go_wp2_with (first
    | (go_at_call 31; refine (H1.out _).mono ?_; rintro e w1 ⟨rfl, rfl⟩; clear H1)
    | (go_at_call 31; refine (H3.out _).mono ?_; rintro e w1 ⟨rfl, rfl⟩)
    | fail)
  go_ret
  exact ⟨rfl, rfl⟩

theorem mixR_any (x : Int) (w : World) : Calls Try.prog 32 #[.int .u64 x] w fun e w' => e = .returned (.int .u64 (mixI x)) ∧ w' = w := by
  have H : Hid (mixI x = mix4 (mix3 (mix2 (mix1 x)))) := Lib.hid rfl
  generalize mixI x = r at *
  go_enter Try.func32, Try.ntmps32
  go_wp2
  go_ret
  exact ⟨by rw [H.out]; rfl, rfl⟩
theorem sealR_any (p a b : Int) (w : World) : Calls Try.prog 34 #[.int .i64 p, .int .u64 a, .int .u64 b] w fun e w' => e = .returned (.int .u64 (sealI p a b)) ∧ w' = w := by
  have H : Hid (sealI p a b = mixI (x64 (mixI a) (mixI (IntKind.u64.wrap (IntKind.u64.wrap (b + IntKind.u64.wrap p) + 1))))) := Lib.hid rfl
  have H1 := Lib.hid (fun W => mixR_any a W)
  have H2 := Lib.hid (fun W => mixR_any (IntKind.u64.wrap (IntKind.u64.wrap (b + IntKind.u64.wrap p) + 1)) W)
  generalize sealI p a b = r at *
  generalize mixI a = x at *
  generalize hy : mixI (IntKind.u64.wrap (IntKind.u64.wrap (b + IntKind.u64.wrap p) + 1)) = y at *
  have H3 := Lib.hid (fun W => mixR_any (x64 x y) W)
  rw [← H.out] at H3
  clear H hy
  go_enter Try.func34, Try.ntmps34
  go_wp2_with (first
    | (go_at_call 32; refine (H1.out _).mono ?_; rintro e w1 ⟨rfl, rfl⟩; clear H1)
    | (go_at_call 32; refine (H2.out _).mono ?_; rintro e w1 ⟨rfl, rfl⟩; clear H2)
    | (go_at_call 32; refine (H3.out _).mono ?_; rintro e w1 ⟨rfl, rfl⟩)
    | fail)
  go_ret
  exact ⟨rfl, rfl⟩
theorem tickR_any (s u : Int) (w : World) : Calls Try.prog 36 #[.int .u64 s, .int .i64 u] w fun e w' => e = .returned (.int .u64 (tickI s u)) ∧ w' = w := by
  have H : Hid (tickI s u = mixI (x64 s (mixI (IntKind.u64.wrap u)))) := Lib.hid rfl
  have H1 := Lib.hid (fun W => mixR_any (IntKind.u64.wrap u) W)
  generalize tickI s u = r at *
  generalize hy : mixI (IntKind.u64.wrap u) = y at *
  have H3 := Lib.hid (fun W => mixR_any (x64 s y) W)
  rw [← H.out] at H3
  clear H hy
  go_enter Try.func36, Try.ntmps36
  go_wp2_with (first
    | (go_at_call 32; refine (H1.out _).mono ?_; rintro e w1 ⟨rfl, rfl⟩; clear H1)
    | (go_at_call 32; refine (H3.out _).mono ?_; rintro e w1 ⟨rfl, rfl⟩)
    | fail)
  go_ret
  exact ⟨rfl, rfl⟩
end Go.Proofs.Ytbkkmgofjhaaoaa
