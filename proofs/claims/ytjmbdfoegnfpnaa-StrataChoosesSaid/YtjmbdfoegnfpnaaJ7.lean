/- Contracts: numbers rounded up (exact and its reference), by 1000. -/
import Derived.Test.YtjmbdfoegnfpnaaJ1
namespace Go.Proofs.Ytjmbdfoegnfpnaa
open Go.RowKit
set_option linter.unusedVariables false
set_option linter.unusedSimpArgs false

/-- Whether a number can be divided, and by which. -/
def fitsB (a b : Int) : Bool := inB a (-1125899906842624) 1125899906842624 && inB b 1 1099511627776
theorem fitsB_iff (a b : Int) : fitsB a b = true ↔ (-1125899906842624 ≤ a ∧ a ≤ 1125899906842624) ∧ 1 ≤ b ∧ b ≤ 1099511627776 := by simp [fitsB, inB]
set_option maxHeartbeats 400000 in
theorem fits_any (a b : Int) (w : World) :
    Calls Try.prog 63 #[.int .i64 a, .int .i64 b] w fun e w' => e = .returned (.bool (fitsB a b)) ∧ w = w' := by
  go_enter Try.func63, Try.ntmps63
  go_wp2
  all_goals
    go_ret
    exact ⟨ret_bool (by simp [fitsB_iff]; omega), rfl⟩

theorem tdiv_bd (a b : Int) (hb : 1 ≤ b) (h : -1125899906842624 ≤ a ∧ a ≤ 1125899906842624) : -1125899906842624 ≤ a.tdiv b ∧ a.tdiv b ≤ 1125899906842624 := by
  have h1 := Int.natAbs_tdiv_le_natAbs a b
  omega
theorem floor_bd (a b : Int) (hb : 1 ≤ b) (h : -1125899906842624 ≤ a ∧ a ≤ 1125899906842624) : -1125899906842625 ≤ a / b ∧ a / b ≤ 1125899906842624 := by
  have := tdiv_bd a b hb h
  rw [tdiv_floor a b hb]
  split <;> omega

set_option maxHeartbeats 400000 in
theorem down_any (a b : Int) (w : World) (ha : -1125899906842624 ≤ a) (ha' : a ≤ 1125899906842624) (hb : 1 ≤ b) (hb' : b ≤ 1099511627776) :
    Calls Try.prog 47 #[.int .i64 a, .int .i64 b] w fun e w' => e = .returned (.int .i64 (a / b)) ∧ w = w' := by
  have hf : fitsB a b = true := (fitsB_iff a b).2 ⟨⟨ha, ha'⟩, hb, hb'⟩
  have hbd := tdiv_bd a b hb ⟨ha, ha'⟩
  have hd := Lib.hid (tdiv_floor a b hb)
  generalize a / b = q at *
  by_cases hr : a.tmod b < 0
  all_goals
    go_enter Try.func47, Try.ntmps47
    go_wp2_with (go_at_call 63; refine (fits_any _ _ _).mono ?_; rintro e w' ⟨rfl, rfl⟩)
    go_ret
    exact ⟨ret_int (by rw [hd.out]; first | rw [if_pos hr] | rw [if_neg (by omega)]), rfl⟩

set_option maxHeartbeats 400000 in
theorem up_any (a b : Int) (w : World) (ha : -1125899906842624 ≤ a) (ha' : a ≤ 1125899906842624) (hb : 1 ≤ b) (hb' : b ≤ 1099511627776) :
    Calls Try.prog 31 #[.int .i64 a, .int .i64 b] w fun e w' => e = .returned (.int .i64 (-((-a) / b))) ∧ w = w' := by
  have hq := floor_bd (-a) b hb (by omega)
  have H := Lib.hid (down_any (-a) b)
  generalize (-a) / b = q at *
  go_enter Try.func31, Try.ntmps31
  go_wp2_with (go_at_call 47; refine (H.out _ (by omega) (by omega) hb hb').mono ?_; rintro e w' ⟨rfl, rfl⟩)
  go_ret
  exact ⟨rfl, rfl⟩


/-- A thousandth, rounded up. -/
def upM (a : Int) : Int := -((-a) / 1000)
theorem upM_eq (a : Int) : upM a = (a + 999) / 1000 := by unfold upM; omega
theorem upM_le {n r : Int} (h0 : 0 ≤ n) (h1 : 0 ≤ r) (h2 : r ≤ 1000) : 0 ≤ upM (n * r) ∧ upM (n * r) ≤ n := by
  have h3 : 0 ≤ n * r := Int.mul_nonneg h0 h1
  have h4 : n * r ≤ n * 1000 := Int.mul_le_mul_of_nonneg_left h2 h0
  rw [upM_eq]
  omega
theorem upS_any (a : Int) (w : World) (h0 : 0 ≤ a) (h1 : a ≤ 60000) :
    Calls Try.prog 31 #[.int .i64 a, .int .i64 1000] w fun e w' => e = .returned (.int .i64 (upM a)) ∧ w = w' :=
  up_any a 1000 w (by omega) (by omega) (by omega) (by omega)

set_option maxHeartbeats 400000 in
theorem properR1_any (a : Int) (w : World) (h0 : -60000 ≤ a) (h1 : a ≤ 60000) :
    Calls Try.prog 50 #[.int .i64 a, .int .i64 1000] w fun e w' => e = .returned (.bool true) ∧ w = w' := by
  have g1 : -1125899906842624 ≤ a := by omega
  have g2 : a ≤ 1125899906842624 := by omega
  have g1d : decide (-1125899906842624 ≤ a) = true := decide_eq_true g1
  have g2d : decide (a ≤ 1125899906842624) = true := decide_eq_true g2
  go_enter Try.func50, Try.ntmps50
  go_wp2
  go_ret
  exact ⟨rfl, rfl⟩

set_option maxHeartbeats 400000 in
theorem downR1_any (x : Int) (w : World) (h0 : -60000 ≤ x) (h1 : x ≤ 0) :
    Calls Try.prog 51 #[.int .i64 x, .int .i64 1000] w fun e w' => e = .returned (.int .i64 (x / 1000)) ∧ w = w' := by
  have e1 := Int.tmod_add_mul_tdiv x 1000
  have e2 := Int.lt_tmod_of_pos x (show (0 : Int) < 1000 by omega)
  have e3 := Int.tmod_lt_of_pos x (show (0 : Int) < 1000 by omega)
  have e4 := tdiv_floor x 1000 (by omega)
  have Hq : Hid (x / 1000 = if x < x.tdiv 1000 * 1000 then x.tdiv 1000 - 1 else x.tdiv 1000) := Lib.hid (by
    rw [e4]
    by_cases h : x.tmod 1000 < 0
    · rw [if_pos h, if_pos (by omega)]
    · rw [if_neg h, if_neg (by omega)])
  clear e4
  generalize x / 1000 = r at *
  have hqb : -61 ≤ x.tdiv 1000 ∧ x.tdiv 1000 ≤ 1 := by omega
  by_cases hlt : x < x.tdiv 1000 * 1000
  · have Hr : Hid (r = x.tdiv 1000 - 1) := Lib.hid (by rw [Hq.out, if_pos hlt])
    clear Hq e1 e2 e3
    go_enter Try.func51, Try.ntmps51
    go_wp2_with (first | (go_at_call 50; refine (properR1_any _ _ (by omega) (by omega)).mono ?_; rintro e w' ⟨rfl, rfl⟩) | fail)
    go_ret
    exact ⟨by rw [Hr.out]; rfl, rfl⟩
  · have Hr : Hid (r = x.tdiv 1000) := Lib.hid (by rw [Hq.out, if_neg hlt])
    clear Hq e1 e2 e3
    go_enter Try.func51, Try.ntmps51
    go_wp2_with (first | (go_at_call 50; refine (properR1_any _ _ (by omega) (by omega)).mono ?_; rintro e w' ⟨rfl, rfl⟩) | fail)
    go_ret
    exact ⟨by rw [Hr.out]; rfl, rfl⟩

set_option maxHeartbeats 400000 in
theorem upR1_any (a : Int) (w : World) (h0 : 0 ≤ a) (h1 : a ≤ 60000) :
    Calls Try.prog 40 #[.int .i64 a, .int .i64 1000] w fun e w' => e = .returned (.int .i64 (upM a)) ∧ w = w' := by
  have Hr : Hid (upM a = -((-a) / 1000)) := Lib.hid rfl
  have hqb : -61 ≤ (-a) / 1000 ∧ (-a) / 1000 ≤ 0 := by omega
  have HD := Lib.hid (fun W => downR1_any (-a) W (by omega) (by omega))
  generalize upM a = r at *
  generalize (-a) / 1000 = q at *
  go_enter Try.func40, Try.ntmps40
  go_wp2_with (first
    | (go_at_call 50; refine (properR1_any _ _ (by omega) (by omega)).mono ?_; rintro e w' ⟨rfl, rfl⟩)
    | (go_at_call 51; refine (HD.out _).mono ?_; rintro e w' ⟨rfl, rfl⟩)
    | fail)
  go_ret
  exact ⟨by rw [Hr.out]; rfl, rfl⟩
end Go.Proofs.Ytjmbdfoegnfpnaa
