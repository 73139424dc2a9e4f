/- Contracts of the reference (layer 4): Size, Area, Has (printed by genV4.py). -/
import Derived.Test.YtpcfhcdbibklcaaGreatV2
namespace Go.Proofs.YtpcfhcdbibklcaaGreat
open Go.RowKit
set_option linter.unusedVariables false
set_option linter.unusedSimpArgs false

set_option maxHeartbeats 1000000 in
theorem sizeR_any (A : Option Addr) (n c : Nat) (l : List R4) (w : World) (hA : SlR w A n c l) (hok : l.all R4.ok = true) (hn : n ≤ 120) :
    Calls Tryz.prog 61 #[.slice A n c] w fun e w' => e = .returned (.int .i64 (sizeP l)) ∧ Below w.heap.size w w' := by
  have hx := hA.len
  have HA := Lib.hid hA
  have Hok := Lib.hid hok
  clear hA hok
  go_enter Tryz.func61, Tryz.ntmps61
  go_upto_region 3 with fail
  go_loopw [3, 5, 8] (fun s _ i wr => ∃ k : Nat, k ≤ n ∧ i = .int .i64 (k : Int) ∧ s = .int .i64 (sizeP (l.take k)) ∧ Hid (0 ≤ sizeP (l.take k) ∧ sizeP (l.take k) ≤ 268435456 * k) ∧ Below w.heap.size w wr) (fun _ _ i _ => n - (intOf i).toNat)
  case atStart => exact ⟨0, Nat.zero_le _, rfl, rfl, Lib.hid ⟨Int.le_refl _, Int.le_refl _⟩, Below.refl _ _⟩
  case round =>
    obtain ⟨k, hk, rfl, rfl, Hbd, hbw⟩ := hrel
    by_cases hkn : k < n
    · have hkl : k < l.length := by omega
      obtain ⟨b, off, rfl, hb, c0, c1, c2, c3⟩ := (HA.out.below hbw).at k hkl
      have hq := List.all_eq_true.1 Hok.out _ (List.getElem_mem hkl)
      have Hnext := Lib.hid (sizeP_succ l k hkl)
      have hkn' : (k : Int) < (n : Int) := by omega
      generalize l[k] = q at *
      obtain ⟨s, hs⟩ : ∃ s, sizeP (l.take k) = s := ⟨_, rfl⟩
      rw [hs] at Hbd Hnext ⊢
      have h1 := (R4.ok_iff q).1 hq
      have h2 := area1_bd hq
      have h3 := Hbd.out
      obtain ⟨a1, ha1⟩ : ∃ a1, q.r - q.l = a1 := ⟨_, rfl⟩
      obtain ⟨a2, ha2⟩ : ∃ a2, q.t - q.b = a2 := ⟨_, rfl⟩
      rw [ha1, ha2] at Hnext h2
      have e1 : IntKind.i64.wrap (q.r - q.l) = a1 := by rw [ha1]; exact IntWalk.i64_in _ (by omega)
      have e2 : IntKind.i64.wrap (q.t - q.b) = a2 := by rw [ha2]; exact IntWalk.i64_in _ (by omega)
      obtain ⟨pr, hpr⟩ : ∃ pr, a1 * a2 = pr := ⟨_, rfl⟩
      rw [hpr] at Hnext h2
      have e3 : IntKind.i64.wrap (a1 * a2) = pr := by rw [hpr]; exact IntWalk.i64_in _ (by omega)
      have e4 : IntKind.i64.wrap (s + pr) = s + pr := IntWalk.i64_in _ (by omega)
      have Hbd2 : Hid (0 ≤ s + pr ∧ s + pr ≤ 268435456 * ((k + 1 : Nat) : Int)) := Lib.hid (by omega)
      have Hbw := Lib.hid hbw
      have hsw := hbw.size
      clear hbw hq h1 h2 h3 ha1 ha2 hpr hs
      go_wp2
      go_roundw
      case rel => exact ⟨k + 1, by omega, by go_num, by rw [Hnext.out], by rw [Hnext.out]; exact Hbd2, Hbw.out.alloc hsw _⟩
      case measure => simp [intOf]; omega
    · have e1 : l.take k = l := List.take_of_length_le (by omega)
      have hkn' : ¬ (k : Int) < (n : Int) := by omega
      rw [e1]
      clear e1
      go_wp2
      go_ret
      exact ⟨rfl, hbw⟩


set_option maxHeartbeats 1000000 in
theorem areaR_any (A : Option Addr) (n c : Nat) (l : List R4) (w : World) (hA : SlR w A n c l) :
    Calls Tryz.prog 26 #[.agg #[.slice A n c]] w fun e w' => e = .returned (.int .i64 (areaP l)) ∧ Below w.heap.size w w' := by
  have hx := hA.len
  have HA := Lib.hid hA
  clear hA
  have HV := Lib.hid (fun W (hW : Below w.heap.size w W) => validR_any A n c l W (HA.out.below hW))
  cases hv : validP l with
  | false =>
    have e0 : areaP l = 0 := by unfold areaP; rw [hv]; rfl
    rw [e0]
    rw [hv] at HV
    clear e0 hv
    go_enter Tryz.func26, Tryz.ntmps26
    go_wp2_with (first | (go_at_call 30; refine (HV.out _ (by repeat' (first | with_reducible exact Below.refl _ _ | with_reducible refine below_drewN ?_ _ | with_reducible refine Below.drew ?_ | with_reducible refine Below.alloc ?_ ?_ _ | with_reducible refine Below.setCell ?_ ?_ _ | with_reducible refine Below.trans ?_ (Below.mono (by with_reducible assumption) ?_) | (simp; done) | (simp; omega) | omega))).mono ?_; rintro e w1 ⟨rfl, hb1⟩) | fail)
    go_ret
    exact ⟨rfl, (by repeat' (first | with_reducible exact Below.refl _ _ | with_reducible assumption | with_reducible refine below_drewN ?_ _ | with_reducible refine Below.drew ?_ | with_reducible refine Below.alloc ?_ ?_ _ | with_reducible refine Below.setCell ?_ ?_ _ | with_reducible refine Below.trans ?_ (Below.mono (by with_reducible assumption) ?_) | with_reducible refine below_only ?_ (by with_reducible assumption) ?_ ?_ | (simp; done) | (simp; omega) | omega))⟩
  | true =>
    have e0 : areaP l = sizeP l := by unfold areaP; rw [hv]; rfl
    obtain ⟨hl, hok, _⟩ := valid_parts hv
    have Hs := Lib.hid (fun W (hW : Below w.heap.size w W) => sizeR_any A n c l W (HA.out.below hW) hok (by omega))
    rw [e0]
    rw [hv] at HV
    clear e0 hv hok
    generalize sizeP l = s at *
    go_enter Tryz.func26, Tryz.ntmps26
    go_wp2_with (first
      | (go_at_call 30; refine (HV.out _ (by repeat' (first | with_reducible exact Below.refl _ _ | with_reducible refine below_drewN ?_ _ | with_reducible refine Below.drew ?_ | with_reducible refine Below.alloc ?_ ?_ _ | with_reducible refine Below.setCell ?_ ?_ _ | with_reducible refine Below.trans ?_ (Below.mono (by with_reducible assumption) ?_) | (simp; done) | (simp; omega) | omega))).mono ?_; rintro e w1 ⟨rfl, hb1⟩; have cg1 : w1.cell? ⟨w.heap.size, 0, none⟩ = some (.slice A n c) := (hb1.cell (p := ⟨w.heap.size, 0, none⟩) (by simp)).trans (cell_of_row _ w.heap.size 0 _ _ _ (heap_alloc_new w _)); have Hb1 : Hid (Below w.heap.size w w1) := Lib.hid (show Below w.heap.size w w1 from (by have hbq := hb1; exact (by repeat' (first | with_reducible exact Below.refl _ _ | with_reducible assumption | with_reducible refine below_drewN ?_ _ | with_reducible refine Below.drew ?_ | with_reducible refine Below.alloc ?_ ?_ _ | with_reducible refine Below.setCell ?_ ?_ _ | with_reducible refine Below.trans ?_ (Below.mono (by with_reducible assumption) ?_) | with_reducible refine below_only ?_ (by with_reducible assumption) ?_ ?_ | (simp; done) | (simp; omega) | omega)))); clear hb1)
      | (go_at_call 61; refine (Hs.out _ (Hb1.out.trans (Below.mono (by repeat' (first | with_reducible exact Below.refl _ _ | with_reducible refine below_drewN ?_ _ | with_reducible refine Below.drew ?_ | with_reducible refine Below.alloc ?_ ?_ _ | with_reducible refine Below.setCell ?_ ?_ _ | with_reducible refine Below.trans ?_ (Below.mono (by with_reducible assumption) ?_) | (simp; done) | (simp; omega) | omega)) Hb1.out.size))).mono ?_; rintro e w2 ⟨rfl, hb2⟩; have Hb2 : Hid (Below w1.heap.size w1 w2) := Lib.hid (show Below w1.heap.size w1 w2 from (by have hbq := hb2; exact (by repeat' (first | with_reducible exact Below.refl _ _ | with_reducible assumption | with_reducible refine below_drewN ?_ _ | with_reducible refine Below.drew ?_ | with_reducible refine Below.alloc ?_ ?_ _ | with_reducible refine Below.setCell ?_ ?_ _ | with_reducible refine Below.trans ?_ (Below.mono (by with_reducible assumption) ?_) | with_reducible refine below_only ?_ (by with_reducible assumption) ?_ ?_ | (simp; done) | (simp; omega) | omega)))); clear hb2)
      | fail)
    go_ret
    exact ⟨rfl, Hb1.out.trans (Hb2.out.mono Hb1.out.size)⟩

set_option maxHeartbeats 1000000 in
set_option maxRecDepth 100000 in
theorem hasR_any (A : Option Addr) (n c : Nat) (l : List R4) (x y : Int) (w : World) (hA : SlR w A n c l) :
    Calls Tryz.prog 10 #[.agg #[.slice A n c], .int .i64 x, .int .i64 y] w fun e w' => e = .returned (.bool (hasP l x y)) ∧ Below w.heap.size w w' := by
  have HA := Lib.hid hA
  have HV := Lib.hid (fun W (hW : Below w.heap.size w W) => validR_any A n c l W (HA.out.below hW))
  have HI := Lib.hid (fun W (hW : Below w.heap.size w W) => insideR_any A n c l x y W (HA.out.below hW))
  have Hh : Hid (hasP l x y = (validP l && inL l x y)) := Lib.hid rfl
  generalize hasP l x y = res at *
  generalize inL l x y = ii at *
  clear hA
  cases hv : validP l with
  | false =>
    have e0 : res = false := by rw [Hh.out, hv]; rfl
    subst e0
    rw [hv] at HV
    clear hv
    go_enter Tryz.func10, Tryz.ntmps10
    go_wp2_with (first | (go_at_call 30; refine (HV.out _ (by repeat' (first | with_reducible exact Below.refl _ _ | with_reducible refine below_drewN ?_ _ | with_reducible refine Below.drew ?_ | with_reducible refine Below.alloc ?_ ?_ _ | with_reducible refine Below.setCell ?_ ?_ _ | with_reducible refine Below.trans ?_ (Below.mono (by with_reducible assumption) ?_) | (simp; done) | (simp; omega) | omega))).mono ?_; rintro e w1 ⟨rfl, hb1⟩) | fail)
    go_ret
    exact ⟨rfl, (by repeat' (first | with_reducible exact Below.refl _ _ | with_reducible assumption | with_reducible refine below_drewN ?_ _ | with_reducible refine Below.drew ?_ | with_reducible refine Below.alloc ?_ ?_ _ | with_reducible refine Below.setCell ?_ ?_ _ | with_reducible refine Below.trans ?_ (Below.mono (by with_reducible assumption) ?_) | with_reducible refine below_only ?_ (by with_reducible assumption) ?_ ?_ | (simp; done) | (simp; omega) | omega))⟩
  | true =>
    have e0 : res = ii := by rw [Hh.out, hv]; rfl
    subst e0
    rw [hv] at HV
    clear hv
    go_enter Tryz.func10, Tryz.ntmps10
    go_wp2_with (first
      | (go_at_call 30; refine (HV.out _ (by repeat' (first | with_reducible exact Below.refl _ _ | with_reducible refine below_drewN ?_ _ | with_reducible refine Below.drew ?_ | with_reducible refine Below.alloc ?_ ?_ _ | with_reducible refine Below.setCell ?_ ?_ _ | with_reducible refine Below.trans ?_ (Below.mono (by with_reducible assumption) ?_) | (simp; done) | (simp; omega) | omega))).mono ?_; rintro e w1 ⟨rfl, hb1⟩; have cg1 : w1.cell? ⟨w.heap.size, 0, none⟩ = some (.slice A n c) := (hb1.cell (p := ⟨w.heap.size, 0, none⟩) (by simp)).trans (cell_of_row _ w.heap.size 0 _ _ _ (heap_alloc_new w _)); have Hb1 : Hid (Below w.heap.size w w1) := Lib.hid (show Below w.heap.size w w1 from (by have hbq := hb1; exact (by repeat' (first | with_reducible exact Below.refl _ _ | with_reducible assumption | with_reducible refine below_drewN ?_ _ | with_reducible refine Below.drew ?_ | with_reducible refine Below.alloc ?_ ?_ _ | with_reducible refine Below.setCell ?_ ?_ _ | with_reducible refine Below.trans ?_ (Below.mono (by with_reducible assumption) ?_) | with_reducible refine below_only ?_ (by with_reducible assumption) ?_ ?_ | (simp; done) | (simp; omega) | omega)))); clear hb1)
      | (go_at_call 31; refine (HI.out _ Hb1.out).mono ?_; rintro e w2 ⟨rfl, hb2⟩; have Hb2 : Hid (Below w.heap.size w w2) := Lib.hid (Hb1.out.trans (hb2.mono Hb1.out.size)); clear hb2)
      | fail)
    go_ret
    exact ⟨rfl, Hb2.out⟩
end Go.Proofs.YtpcfhcdbibklcaaGreat
