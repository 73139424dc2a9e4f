/- Contracts (as in law28): which measurement is one; dividing and rounding; the accepted area. -/
import Derived.Test.YteehihmjbibebaaGreatQ
import Derived.BigQuiet
import Derived.Deep.QuietTactic
namespace Go.Proofs.YteehihmjbibebaaGreat
open Go.RowKit
set_option linter.unusedVariables false

/-- Whether an area and a border are a measurement. -/
def measB (a b : Int) : Bool := inB a 0 268435456 && inB b 0 16777216
theorem measB_iff (a b : Int) : measB a b = true ↔ (0 ≤ a ∧ a ≤ 268435456) ∧ 0 ≤ b ∧ b ≤ 16777216 := by simp [measB, inB]

set_option maxHeartbeats 400000 in
theorem validT_any (a b : Int) (w : World) :
    Calls Tryz.prog 29 #[.agg #[.int .i64 a, .int .i64 b]] w fun e w' => e = .returned (.bool (measB a b)) ∧ Below w.heap.size w w' := by
  go_enter Tryz.func29, Tryz.ntmps29
  go_wp2
  all_goals
    go_ret
    exact ⟨ret_bool (by simp [measB_iff]; omega), (Below.refl _ _).alloc (Nat.le_refl _) _⟩
set_option maxHeartbeats 400000 in
theorem valid08_any (a b : Int) (w : World) :
    Calls Tryz.prog 21 #[.agg #[.int .i64 a, .int .i64 b]] w fun e w' => e = .returned (.bool (measB a b)) ∧ Below w.heap.size w w' := by
  go_enter Tryz.func21, Tryz.ntmps21
  go_wp2
  all_goals
    go_ret
    exact ⟨ret_bool (by simp [measB_iff]; omega), (Below.refl _ _).alloc (Nat.le_refl _) _⟩

/-- Whether a number can be divided, and by which. -/
def fitsB (a b : Int) : Bool := inB a (-1125899906842624) 1125899906842624 && inB b 1 1099511627776
theorem fitsB_iff (a b : Int) : fitsB a b = true ↔ (-1125899906842624 ≤ a ∧ a ≤ 1125899906842624) ∧ 1 ≤ b ∧ b ≤ 1099511627776 := by simp [fitsB, inB]
set_option maxHeartbeats 400000 in
theorem fits_any (a b : Int) (w : World) :
    Calls Tryz.prog 39 #[.int .i64 a, .int .i64 b] w fun e w' => e = .returned (.bool (fitsB a b)) ∧ w = w' := by
  go_enter Tryz.func39, Tryz.ntmps39
  go_wp2
  all_goals
    go_ret
    exact ⟨ret_bool (by simp [fitsB_iff]; omega), rfl⟩

theorem tdiv_bd (a b : Int) (hb : 1 ≤ b) (h : -1125899906842624 ≤ a ∧ a ≤ 1125899906842624) : -1125899906842624 ≤ a.tdiv b ∧ a.tdiv b ≤ 1125899906842624 := by
  have h1 := Int.natAbs_tdiv_le_natAbs a b
  omega
theorem floor_bd (a b : Int) (hb : 1 ≤ b) (h : -1125899906842624 ≤ a ∧ a ≤ 1125899906842624) : -1125899906842625 ≤ a / b ∧ a / b ≤ 1125899906842624 := by
  have := tdiv_bd a b hb h
  rw [tdiv_floor a b hb]
  split <;> omega

set_option maxHeartbeats 400000 in
theorem down_any (a b : Int) (w : World) (ha : -1125899906842624 ≤ a) (ha' : a ≤ 1125899906842624) (hb : 1 ≤ b) (hb' : b ≤ 1099511627776) :
    Calls Tryz.prog 30 #[.int .i64 a, .int .i64 b] w fun e w' => e = .returned (.int .i64 (a / b)) ∧ w = w' := by
  have hf : fitsB a b = true := (fitsB_iff a b).2 ⟨⟨ha, ha'⟩, hb, hb'⟩
  have hbd := tdiv_bd a b hb ⟨ha, ha'⟩
  have hd := Lib.hid (tdiv_floor a b hb)
  generalize a / b = q at *
  by_cases hr : a.tmod b < 0
  all_goals
    go_enter Tryz.func30, Tryz.ntmps30
    go_wp2_with (go_at_call 39; refine (fits_any _ _ _).mono ?_; rintro e w' ⟨rfl, rfl⟩)
    go_ret
    exact ⟨ret_int (by rw [hd.out]; first | rw [if_pos hr] | rw [if_neg (by omega)]), rfl⟩

set_option maxHeartbeats 400000 in
theorem up_any (a b : Int) (w : World) (ha : -1125899906842624 ≤ a) (ha' : a ≤ 1125899906842624) (hb : 1 ≤ b) (hb' : b ≤ 1099511627776) :
    Calls Tryz.prog 20 #[.int .i64 a, .int .i64 b] w fun e w' => e = .returned (.int .i64 (-((-a) / b))) ∧ w = w' := by
  have hq := floor_bd (-a) b hb (by omega)
  have H := Lib.hid (down_any (-a) b)
  generalize (-a) / b = q at *
  go_enter Tryz.func20, Tryz.ntmps20
  go_wp2_with (go_at_call 30; refine (H.out _ (by omega) (by omega) hb hb').mono ?_; rintro e w' ⟨rfl, rfl⟩)
  go_ret
  exact ⟨rfl, rfl⟩

/-- The first error of a claim, a measurement and a width. -/
def checkT (c a b wd : Int) : Int := if measB a b = true then (if 0 ≤ wd ∧ wd ≤ 200 ∧ 0 ≤ c ∧ c ≤ 268435456 then 0 else 2) else 3
theorem checkT_zero (c a b wd : Int) : checkT c a b wd = 0 ↔ measB a b = true ∧ 0 ≤ wd ∧ wd ≤ 200 ∧ 0 ≤ c ∧ c ≤ 268435456 := by
  unfold checkT
  split <;> (try split) <;> simp_all

set_option maxHeartbeats 400000 in
theorem checkT_any (c a b wd : Int) (w : World) :
    Calls Tryz.prog 19 #[.int .i64 c, .agg #[.int .i64 a, .int .i64 b], .int .i64 wd] w fun e w' => e = .returned (.int .i64 (checkT c a b wd)) ∧ Below w.heap.size w w' := by
  have hv := Lib.hid (validT_any a b)
  cases hm : measB a b
  all_goals
    rw [hm] at hv
    have Hm := Lib.hid hm
    clear hm
    go_enter Tryz.func19, Tryz.ntmps19
    go_wp2_with (go_at_call 29; refine (hv.out _).mono ?_; rintro e w1 ⟨rfl, hb⟩; obtain ⟨hc, hf⟩ := bcell hb)
    all_goals
      go_ret
      refine ⟨ret_int ?_, ((Below.refl _ _).alloc (Nat.le_refl _) _).trans (hb.mono (by simp))⟩
      unfold checkT
      rw [Hm.out]
      simp
      try omega

/-- The margin of a measurement; 0 if there is an error. -/
def marginV (a b wd : Int) : Int := if checkT 0 a b wd = 0 then min a ((b * wd + 99) / 100) else 0
theorem mul_bd {b wd : Int} (h1 : 0 ≤ b) (h2 : b ≤ 16777216) (h3 : 0 ≤ wd) (h4 : wd ≤ 200) : 0 ≤ b * wd ∧ b * wd ≤ 3355443200 := by
  refine ⟨Int.mul_nonneg h1 h3, ?_⟩
  have := Int.mul_le_mul h2 h4 h3 (by omega)
  omega
theorem up100 (x : Int) : -((-x) / 100) = (x + 99) / 100 := by omega

set_option maxHeartbeats 400000 in
theorem marginT_any (a b wd : Int) (w : World) :
    Calls Tryz.prog 8 #[.agg #[.int .i64 a, .int .i64 b], .int .i64 wd] w fun e w' => e = .returned (.tuple #[.int .i64 (marginV a b wd), .int .i64 (checkT 0 a b wd)]) ∧ Below w.heap.size w w' := by
  have hv := Lib.hid (checkT_any 0 a b wd)
  unfold marginV
  by_cases hz : checkT 0 a b wd = 0
  · rw [if_pos hz]
    obtain ⟨hm, h1, h2, _, _⟩ := (checkT_zero 0 a b wd).1 hz
    obtain ⟨⟨h5, h6⟩, h7, h8⟩ := (measB_iff a b).1 hm
    obtain ⟨h9, h10⟩ := mul_bd h7 h8 h1 h2
    rw [hz] at hv ⊢
    clear hz hm
    have hu := Lib.hid (up_any (b * wd) 100)
    rw [up100] at hu
    go_enter Tryz.func8, Tryz.ntmps8
    go_wp2_with (go_at_call 19; refine (hv.out _).mono ?_; rintro e w1 ⟨rfl, hb⟩; obtain ⟨hc, hf⟩ := bcell hb)
    go_quiet ((go_at_call 20; exact quiet_left (hu.out _ (by omega) (by omega) (by omega) (by omega))))
    go_wp2
    all_goals
      go_ret2
      exact ⟨ret_ints (by omega) rfl, (by repeat' (first | with_reducible exact Below.refl _ _ | with_reducible refine below_drewN ?_ _ | with_reducible refine Below.drew ?_ | with_reducible refine Below.alloc ?_ ?_ _ | with_reducible refine Below.setCell ?_ ?_ _ | with_reducible refine Below.trans ?_ (Below.mono (by with_reducible assumption) ?_) | (simp; done) | (simp; omega) | omega))⟩
  · rw [if_neg hz]
    have hz' : (checkT 0 a b wd != 0) = true := by simp [hz]
    generalize checkT 0 a b wd = z at *
    go_enter Tryz.func8, Tryz.ntmps8
    go_wp2_with (go_at_call 19; refine (hv.out _).mono ?_; rintro e w1 ⟨rfl, hb⟩; obtain ⟨hc, hf⟩ := bcell hb)
    go_ret2
    exact ⟨rfl, (by repeat' (first | with_reducible exact Below.refl _ _ | with_reducible refine below_drewN ?_ _ | with_reducible refine Below.drew ?_ | with_reducible refine Below.alloc ?_ ?_ _ | with_reducible refine Below.setCell ?_ ?_ _ | with_reducible refine Below.trans ?_ (Below.mono (by with_reducible assumption) ?_) | (simp; done) | (simp; omega) | omega))⟩

set_option maxHeartbeats 400000 in
theorem margin08_any (a b wd : Int) (w : World) :
    Calls Tryz.prog 9 #[.agg #[.int .i64 a, .int .i64 b], .int .i64 wd] w fun e w' => e = .returned (.tuple #[.int .i64 (marginV a b wd), .int .i64 (checkT 0 a b wd)]) ∧ Below w.heap.size w w' := by
  have hv := Lib.hid (valid08_any a b)
  unfold marginV
  by_cases hz : checkT 0 a b wd = 0
  · rw [if_pos hz]
    obtain ⟨hm, h1, h2, _, _⟩ := (checkT_zero 0 a b wd).1 hz
    obtain ⟨⟨h5, h6⟩, h7, h8⟩ := (measB_iff a b).1 hm
    obtain ⟨h9, h10⟩ := mul_bd h7 h8 h1 h2
    rw [hm] at hv
    rw [hz]
    clear hz hm
    have hr : min a ((b * wd + 99) / 100) ≤ a ∧ min a ((b * wd + 99) / 100) ≤ (b * wd + 99) / 100 ∧ (a ≤ min a ((b * wd + 99) / 100) ∨ (b * wd + 99) / 100 ≤ min a ((b * wd + 99) / 100)) := by omega
    generalize min a ((b * wd + 99) / 100) = r at *
    go_enter Tryz.func9, Tryz.ntmps9
    go_wp2_with (go_at_call 21; refine (hv.out _).mono ?_; rintro e w1 ⟨rfl, hb⟩; obtain ⟨hc, hf⟩ := bcell hb)
    all_goals
      go_ret2
      exact ⟨ret_ints (by omega) rfl, (by repeat' (first | with_reducible exact Below.refl _ _ | with_reducible refine below_drewN ?_ _ | with_reducible refine Below.drew ?_ | with_reducible refine Below.alloc ?_ ?_ _ | with_reducible refine Below.setCell ?_ ?_ _ | with_reducible refine Below.trans ?_ (Below.mono (by with_reducible assumption) ?_) | (simp; done) | (simp; omega) | omega))⟩
  · rw [if_neg hz]
    cases hm : measB a b
    all_goals
      rw [hm] at hv
      have Hm := Lib.hid hm
      clear hm
      go_enter Tryz.func9, Tryz.ntmps9
      go_wp2_with (go_at_call 21; refine (hv.out _).mono ?_; rintro e w1 ⟨rfl, hb⟩; obtain ⟨hc, hf⟩ := bcell hb)
      all_goals
        go_ret2
        first
          | (refine ⟨ret_ints rfl ?_, (by repeat' (first | with_reducible exact Below.refl _ _ | with_reducible refine below_drewN ?_ _ | with_reducible refine Below.drew ?_ | with_reducible refine Below.alloc ?_ ?_ _ | with_reducible refine Below.setCell ?_ ?_ _ | with_reducible refine Below.trans ?_ (Below.mono (by with_reducible assumption) ?_) | (simp; done) | (simp; omega) | omega))⟩; unfold checkT; rw [Hm.out]; simp; done)
          | (refine ⟨ret_ints rfl ?_, (by repeat' (first | with_reducible exact Below.refl _ _ | with_reducible refine below_drewN ?_ _ | with_reducible refine Below.drew ?_ | with_reducible refine Below.alloc ?_ ?_ _ | with_reducible refine Below.setCell ?_ ?_ _ | with_reducible refine Below.trans ?_ (Below.mono (by with_reducible assumption) ?_) | (simp; done) | (simp; omega) | omega))⟩; unfold checkT; rw [Hm.out]; simp; omega)
          | (exfalso; apply hz; unfold checkT; rw [Hm.out]; simp; omega)

/-- The area that is accepted; 0 if there is an error. -/
def acceptV (c a b wd : Int) : Int := if checkT c a b wd = 0 then (if c - a ≤ min a ((b * wd + 99) / 100) ∧ a - c ≤ min a ((b * wd + 99) / 100) then c else a) else 0
theorem checkT_of (c a b wd : Int) (h : checkT c a b wd = 0) : checkT 0 a b wd = 0 := by
  obtain ⟨h1, h2, h3, h4, h5⟩ := (checkT_zero c a b wd).1 h
  exact (checkT_zero 0 a b wd).2 ⟨h1, h2, h3, by omega, by omega⟩

set_option maxHeartbeats 400000 in
theorem acceptT_any (c a b wd : Int) (w : World) :
    Calls Tryz.prog 10 #[.int .i64 c, .agg #[.int .i64 a, .int .i64 b], .int .i64 wd] w fun e w' => e = .returned (.tuple #[.int .i64 (acceptV c a b wd), .int .i64 (checkT c a b wd)]) ∧ Below w.heap.size w w' := by
  have hv := Lib.hid (checkT_any c a b wd)
  have hg := Lib.hid (marginT_any a b wd)
  unfold acceptV
  by_cases hz : checkT c a b wd = 0
  · rw [if_pos hz]
    have hz0 := checkT_of c a b wd hz
    unfold marginV at hg
    rw [if_pos hz0, hz0] at hg
    obtain ⟨hm, h1, h2, h3, h4⟩ := (checkT_zero c a b wd).1 hz
    obtain ⟨⟨h5, h6⟩, h7, h8⟩ := (measB_iff a b).1 hm
    obtain ⟨h9, h10⟩ := mul_bd h7 h8 h1 h2
    rw [hz] at hv ⊢
    clear hz hm hz0
    have hr : min a ((b * wd + 99) / 100) ≤ 268435456 ∧ 0 ≤ min a ((b * wd + 99) / 100) := by omega
    generalize min a ((b * wd + 99) / 100) = r at *
    rcases (show (c - a ≤ r ∧ a - c ≤ r) ∨ (r < c - a ∧ a - c ≤ r) ∨ (c - a ≤ r ∧ r < a - c) by omega) with ⟨hd, hd'⟩ | ⟨hd, hd'⟩ | ⟨hd, hd'⟩
    all_goals
      go_enter Tryz.func10, Tryz.ntmps10
      go_wp2_with (first | (go_at_call 19; refine (hv.out _).mono ?_; rintro e w1 ⟨rfl, hb1⟩; obtain ⟨hc1, hf1⟩ := bcell hb1; have hl1 : w.heap.size < w1.heap.size := (by have := hb1.size; (try simp at this); omega)) | (go_at_call 8; refine (hg.out _).mono ?_; rintro e w2 ⟨rfl, hb2⟩; obtain ⟨hc2, hf2⟩ := bcell hb2; have hl2 : w.heap.size < w2.heap.size := (by have := hb2.size; (try simp at this); omega)))
      all_goals
        go_ret2
        refine ⟨ret_ints ?_ rfl, (by repeat' (first | with_reducible exact Below.refl _ _ | with_reducible refine below_drewN ?_ _ | with_reducible refine Below.drew ?_ | with_reducible refine Below.alloc ?_ ?_ _ | with_reducible refine Below.setCell ?_ ?_ _ | with_reducible refine Below.trans ?_ (Below.mono (by with_reducible assumption) ?_) | (simp; done) | (simp; omega) | omega))⟩
        first | rfl | rw [if_pos (by omega)] | rw [if_neg (by omega)]
  · rw [if_neg hz]
    have hz' : (checkT c a b wd != 0) = true := by simp [hz]
    generalize checkT c a b wd = z at *
    go_enter Tryz.func10, Tryz.ntmps10
    go_wp2_with (go_at_call 19; refine (hv.out _).mono ?_; rintro e w1 ⟨rfl, hb⟩; obtain ⟨hc, hf⟩ := bcell hb)
    go_ret2
    exact ⟨rfl, (by repeat' (first | with_reducible exact Below.refl _ _ | with_reducible refine below_drewN ?_ _ | with_reducible refine Below.drew ?_ | with_reducible refine Below.alloc ?_ ?_ _ | with_reducible refine Below.setCell ?_ ?_ _ | with_reducible refine Below.trans ?_ (Below.mono (by with_reducible assumption) ?_) | (simp; done) | (simp; omega) | omega))⟩

/-- The margin, or 0 if there is an error of the claim. -/
def chk08V (c a b wd : Int) : Int := if checkT c a b wd = 0 then marginV a b wd else 0

set_option maxHeartbeats 400000 in
theorem check08_any (c a b wd : Int) (w : World) :
    Calls Tryz.prog 22 #[.int .i64 c, .agg #[.int .i64 a, .int .i64 b], .int .i64 wd] w fun e w' => e = .returned (.tuple #[.int .i64 (chk08V c a b wd), .int .i64 (checkT c a b wd)]) ∧ Below w.heap.size w w' := by
  have hg := Lib.hid (margin08_any a b wd)
  have Hv := Lib.hid (show chk08V c a b wd = if checkT c a b wd = 0 then marginV a b wd else 0 from rfl)
  generalize chk08V c a b wd = v at *
  by_cases hz : checkT 0 a b wd = 0
  · have hx := (checkT_zero 0 a b wd).1 hz
    rw [hz] at hg
    have hcv : checkT c a b wd = if 0 ≤ c ∧ c ≤ 268435456 then 0 else 2 := by
      unfold checkT
      rw [if_pos hx.1]
      by_cases h : 0 ≤ c ∧ c ≤ 268435456
      · rw [if_pos h, if_pos ⟨hx.2.1, hx.2.2.1, h⟩]
      · rw [if_neg h, if_neg (fun hh => h ⟨hh.2.2.1, hh.2.2.2⟩)]
    clear hx
    have Hcv := Lib.hid hcv
    clear hcv hz
    generalize checkT c a b wd = z at *
    generalize marginV a b wd = r at *
    go_enter Tryz.func22, Tryz.ntmps22
    go_wp2_with ((go_at_call 9; refine (hg.out _).mono ?_; rintro e w1 ⟨rfl, hb1⟩; obtain ⟨hc1, hf1⟩ := bcell hb1; have hl1 : w.heap.size < w1.heap.size := (by have := hb1.size; (try simp at this); omega)))
    all_goals
      go_ret2
      refine ⟨ret_ints ?_ ?_, (by repeat' (first | with_reducible exact Below.refl _ _ | with_reducible refine below_drewN ?_ _ | with_reducible refine Below.drew ?_ | with_reducible refine Below.alloc ?_ ?_ _ | with_reducible refine Below.setCell ?_ ?_ _ | with_reducible refine Below.trans ?_ (Below.mono (by with_reducible assumption) ?_) | (simp; done) | (simp; omega) | omega))⟩
      · rw [Hv.out, Hcv.out]
        first | (rw [if_pos (show 0 ≤ c ∧ c ≤ 268435456 by omega)]; simp; done) | (rw [if_neg (show ¬ (0 ≤ c ∧ c ≤ 268435456) by omega)]; simp; done)
      · rw [Hcv.out]
        first | (rw [if_pos (show 0 ≤ c ∧ c ≤ 268435456 by omega)]; done) | (rw [if_neg (show ¬ (0 ≤ c ∧ c ≤ 268435456) by omega)]; done)
  · have hcv : checkT c a b wd = checkT 0 a b wd := by
      unfold checkT at hz ⊢
      by_cases hm : measB a b = true
      · rw [if_pos hm] at hz
        rw [if_pos hm, if_pos hm]
        rw [if_neg (fun h => hz (if_pos ⟨h.1, h.2.1, by omega, by omega⟩)), if_neg (fun h => hz (if_pos h))]
      · rw [if_neg hm, if_neg hm]
    have hv0 := Hv.out
    rw [hcv, if_neg hz] at hv0
    subst hv0
    rw [hcv]
    unfold marginV at hg
    rw [if_neg hz] at hg
    have hz' : (checkT 0 a b wd != 0) = true := by simp [hz]
    clear hcv hz
    generalize checkT 0 a b wd = z at *
    go_enter Tryz.func22, Tryz.ntmps22
    go_wp2_with ((go_at_call 9; refine (hg.out _).mono ?_; rintro e w1 ⟨rfl, hb1⟩; obtain ⟨hc1, hf1⟩ := bcell hb1; have hl1 : w.heap.size < w1.heap.size := (by have := hb1.size; (try simp at this); omega)))
    go_ret2
    exact ⟨rfl, (by repeat' (first | with_reducible exact Below.refl _ _ | with_reducible refine below_drewN ?_ _ | with_reducible refine Below.drew ?_ | with_reducible refine Below.alloc ?_ ?_ _ | with_reducible refine Below.setCell ?_ ?_ _ | with_reducible refine Below.trans ?_ (Below.mono (by with_reducible assumption) ?_) | (simp; done) | (simp; omega) | omega))⟩

set_option maxHeartbeats 400000 in
theorem accept08_any (c a b wd : Int) (w : World) :
    Calls Tryz.prog 11 #[.int .i64 c, .agg #[.int .i64 a, .int .i64 b], .int .i64 wd] w fun e w' => e = .returned (.tuple #[.int .i64 (acceptV c a b wd), .int .i64 (checkT c a b wd)]) ∧ Below w.heap.size w w' := by
  have hv := Lib.hid (check08_any c a b wd)
  unfold acceptV
  by_cases hz : checkT c a b wd = 0
  · rw [if_pos hz]
    have hz0 := checkT_of c a b wd hz
    unfold chk08V at hv
    rw [if_pos hz] at hv
    unfold marginV at hv
    rw [if_pos hz0, hz] at hv
    obtain ⟨hm, h1, h2, h3, h4⟩ := (checkT_zero c a b wd).1 hz
    obtain ⟨⟨h5, h6⟩, h7, h8⟩ := (measB_iff a b).1 hm
    obtain ⟨h9, h10⟩ := mul_bd h7 h8 h1 h2
    rw [hz]
    clear hz hm hz0
    have hr : min a ((b * wd + 99) / 100) ≤ 268435456 ∧ 0 ≤ min a ((b * wd + 99) / 100) := by omega
    generalize min a ((b * wd + 99) / 100) = r at *
    rcases (show (c - a ≤ r ∧ a - c ≤ r) ∨ (r < c - a ∧ a - c ≤ r) ∨ (c - a ≤ r ∧ r < a - c) by omega) with ⟨hd, hd'⟩ | ⟨hd, hd'⟩ | ⟨hd, hd'⟩
    all_goals
      go_enter Tryz.func11, Tryz.ntmps11
      go_wp2_with ((go_at_call 22; refine (hv.out _).mono ?_; rintro e w1 ⟨rfl, hb1⟩; obtain ⟨hc1, hf1⟩ := bcell hb1; have hl1 : w.heap.size < w1.heap.size := (by have := hb1.size; (try simp at this); omega)))
      all_goals
        go_ret2
        refine ⟨ret_ints ?_ rfl, (by repeat' (first | with_reducible exact Below.refl _ _ | with_reducible refine below_drewN ?_ _ | with_reducible refine Below.drew ?_ | with_reducible refine Below.alloc ?_ ?_ _ | with_reducible refine Below.setCell ?_ ?_ _ | with_reducible refine Below.trans ?_ (Below.mono (by with_reducible assumption) ?_) | (simp; done) | (simp; omega) | omega))⟩
        first | rfl | rw [if_pos (by omega)] | rw [if_neg (by omega)]
  · rw [if_neg hz]
    unfold chk08V at hv
    rw [if_neg hz] at hv
    have hz' : (checkT c a b wd != 0) = true := by simp [hz]
    generalize checkT c a b wd = z at *
    go_enter Tryz.func11, Tryz.ntmps11
    go_wp2_with ((go_at_call 22; refine (hv.out _).mono ?_; rintro e w1 ⟨rfl, hb1⟩; obtain ⟨hc1, hf1⟩ := bcell hb1; have hl1 : w.heap.size < w1.heap.size := (by have := hb1.size; (try simp at this); omega)))
    go_ret2
    exact ⟨rfl, (by repeat' (first | with_reducible exact Below.refl _ _ | with_reducible refine below_drewN ?_ _ | with_reducible refine Below.drew ?_ | with_reducible refine Below.alloc ?_ ?_ _ | with_reducible refine Below.setCell ?_ ?_ _ | with_reducible refine Below.trans ?_ (Below.mono (by with_reducible assumption) ?_) | (simp; done) | (simp; omega) | omega))⟩
end Go.Proofs.YteehihmjbibebaaGreat
