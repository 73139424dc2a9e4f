/- Contract: Salt (the second reference's maker of numbers). -/
import Derived.Test.YtbkkmgofjhaaoaaD1
import Derived.Test.YtbkkmgofjhaaoaaT
namespace Go.Proofs.Ytbkkmgofjhaaoaa
open Go.RowKit
set_option linter.unusedVariables false
set_option linter.unusedSimpArgs false

def saltI (r : List Int) : Int := IntKind.u64.wrap (IntKind.u64.wrap (nx r 1000 * 6364136223846793005) + nx r.tail 1000)

set_option maxHeartbeats 400000 in
theorem salt_any (g : Nat) (r : List Int) (w : World) (ht : TapeAt w g r) :
    Calls Try.prog 40 #[.pointer (some ⟨g, 0, none⟩)] w fun e w' => e = .returned (.int .u64 (saltI r)) ∧ TapeAt w' g r.tail.tail ∧ w.grownBy w' (some g) := by
  have Hs : Hid (saltI r = IntKind.u64.wrap (IntKind.u64.wrap (nx r 1000 * 6364136223846793005) + nx r.tail 1000)) := Lib.hid rfl
  have N1 := Lib.hid (next_any g r 1000 w ht (by omega))
  have b1 := nx_bd r 1000 (by omega)
  have b2 := nx_bd r.tail 1000 (by omega)
  have N2 := Lib.hid (fun W (h : TapeAt W g r.tail) => next_any g r.tail 1000 W h (by omega))
  generalize nx r 1000 = x at *
  generalize nx r.tail 1000 = y at *
  have c1 : IntKind.u64.wrap x = x := by rw [IntKind.wrap_u64]; omega
  have c2 : IntKind.u64.wrap y = y := by rw [IntKind.wrap_u64]; omega
  go_enter Try.func40, Try.ntmps40
  go_wp2_with fail
  refine N1.out.mono ?_
  rintro e w1 ⟨rfl, ht1, hg1⟩
  have Ht1 := Lib.hid ht1
  have Hg1 := Lib.hid hg1
  clear ht1 hg1
  go_wp2_with fail
  refine (N2.out _ Ht1.out).mono ?_
  rintro e w2 ⟨rfl, ht2, hg2⟩
  have Ht2 := Lib.hid ht2
  have Hg2 := Lib.hid hg2
  clear ht2 hg2
  go_wp2
  go_ret
  exact ⟨by rw [Hs.out]; rfl, Ht2.out, only_trans Hg1.out Hg2.out⟩
end Go.Proofs.Ytbkkmgofjhaaoaa
