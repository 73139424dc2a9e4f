/- Contracts: check, line, Check (claim), where all is right, or the parcel is not there. -/
import Derived.Test.YtglanlpjoaholaaGreatY9
import Derived.Test.YtglanlpjoaholaaGreatY3
import Derived.Test.YtglanlpjoaholaaGreatU7
namespace Go.Proofs.YtglanlpjoaholaaGreat
open Go.RowKit Go.Shelf
set_option linter.unusedVariables false
set_option linter.unusedSimpArgs false

set_option maxHeartbeats 400000 in
theorem validG2 (w : World) : PredBelow Tryz.prog 101 #[] (fun x : GS w => .agg #[rgC x.1]) (fun x => !validP x.1.1) w := by
  intro W x hb
  obtain ⟨⟨l, v⟩, hx⟩ := x
  refine Calls.mono (show Calls Tryz.prog 101 #[.agg #[.slice v.a l.length v.c]] W fun e w' => e = .returned (.bool (!validP l)) ∧ Below W.heap.size W w' from ?_) ?_
  · have HV := Lib.hid (fun W' (hW : Below W.heap.size W W') => valid_any v.a l.length v.c l W' ((hx.below hb).below hW))
    generalize validP l = x at *
    clear hx
    go_enter Tryz.func101, Tryz.ntmps101
    go_wp2_with (first | (go_at_call 68; refine (HV.out _ (by repeat' (first | with_reducible exact Below.refl _ _ | with_reducible refine below_drewN ?_ _ | with_reducible refine Below.drew ?_ | with_reducible refine Below.alloc ?_ ?_ _ | with_reducible refine Below.setCell ?_ ?_ _ | with_reducible refine Below.trans ?_ (Below.mono (by with_reducible assumption) ?_) | (simp; done) | (simp; omega) | omega))).mono ?_; rintro e w1 ⟨rfl, hb1⟩) | fail)
    go_ret
    exact ⟨rfl, (by repeat' (first | with_reducible exact Below.refl _ _ | with_reducible assumption | with_reducible refine below_drewN ?_ _ | with_reducible refine Below.drew ?_ | with_reducible refine Below.alloc ?_ ?_ _ | with_reducible refine Below.setCell ?_ ?_ _ | with_reducible refine Below.trans ?_ (Below.mono (by with_reducible assumption) ?_) | with_reducible refine below_only ?_ (by with_reducible assumption) ?_ ?_ | (simp; done) | (simp; omega) | omega))⟩
  · rintro e w' ⟨rfl, h⟩
    exact ⟨rfl, hb.trans (h.mono hb.size)⟩

set_option maxHeartbeats 4000000 in
set_option maxRecDepth 100000 in
theorem pcheck_any (NA : Option Addr) (n kc : Nat) (N : List Int) (RA : Option Addr) (rc : Nat) (R : RL) (CA : Option Addr) (m cc : Nat) (C : List Cp) (mask : Int) (w : World) (hN : SlI w NA n kc N) (hR : SlG w RA n rc R) (hC : SlC w CA m cc C) (hn : n ≤ 60) (hp : N.Pairwise (· < ·)) (hv : ∀ x ∈ R, validP x.1 = true) (hc : cropsB C) :
    Calls Tryz.prog 76 #[.agg #[.slice NA n kc, .slice RA n rc, .slice CA m cc, .int .i64 mask]] w fun e w' => e = .returned (.int .i64 0) ∧ Below w.heap.size w w' := by
  have HN := Lib.hid hN
  have Hn := Lib.hid hN.len
  have Hp := Lib.hid (List.pairwise_iff_getElem.1 hp)
  have Egv : Hid (∀ args w, (callFunc 101 args).run Tryz.prog w = .ok (.enter 101 args) w) := Lib.hid (enters_of Tryz.func101 (by kernel_rfl) rfl)
  have hany : R.any (fun x => !validP x.1) = false := by
    rw [List.any_eq_false]
    intro x hx
    rw [hv x hx]
    simp
  have HCo : Hid (∀ W, Below w.heap.size w W → Calls Tryz.prog 66 #[.slice RA n rc, .func (.func 101) #[] #[]] W fun e w' => e = .returned (.bool false) ∧ Below W.heap.size W w') := Lib.hid (fun W hW => by
    have := containsG_any (fun x => !validP x.1) 101 #[] Egv.out RA n rc R W (hR.below hW) (validG2 W)
    rwa [hany] at this)
  have HCk := Lib.hid (fun W (hW : Below w.heap.size w W) => cropCheck_any CA m cc C W (hC.below hW) hc)
  clear hN hR hC hp hv hc hany
  have hn60 : ¬ (60 : Int) < (n : Int) := by omega
  go_enter Tryz.func76, Tryz.ntmps76
  go_upto_region 1 with fail
  obtain ⟨wa, hwa⟩ : ∃ wa : World, wa = w.alloc (.cells #[.slice NA n kc, .slice RA n rc, .slice CA m cc, .int .i64 mask] 77) := ⟨_, rfl⟩
  rw [← hwa]
  have HB : Hid (wa.heap[w.heap.size]? = some (.cells #[.slice NA n kc, .slice RA n rc, .slice CA m cc, .int .i64 mask] 77 (0, 0))) := Lib.hid (by rw [hwa]; exact heap_alloc_new w _)
  have Hba : Hid (Below w.heap.size w wa) := Lib.hid (by rw [hwa]; exact (by repeat' (first | with_reducible exact Below.refl _ _ | with_reducible refine below_drewN ?_ _ | with_reducible refine Below.drew ?_ | with_reducible refine Below.alloc ?_ ?_ _ | with_reducible refine Below.setCell ?_ ?_ _ | with_reducible refine Below.trans ?_ (Below.mono (by with_reducible assumption) ?_) | (simp; done) | (simp; omega) | omega)))
  have hla : w.heap.size < wa.heap.size := by rw [hwa]; simp
  clear hwa
  have a0 := cell_of_row wa w.heap.size 0 _ _ _ HB.out
  have a1 := cell_of_row wa w.heap.size 1 _ _ _ HB.out
  go_upto_region 3 with fail
  clear a0 a1
  go_wp2_with fail
  go_loopw [3] (fun iv wr => ∃ k : Nat, 1 ≤ k ∧ (k ≤ n ∨ k = 1) ∧ iv = .int .i64 (k : Int) ∧ Below wa.heap.size wa wr) (fun iv _ => n - (intOf iv).toNat)
  case atStart => exact ⟨1, Nat.le_refl _, .inr rfl, rfl, Below.refl _ _⟩
  case round =>
    obtain ⟨k, hk1, hk, rfl, hbw⟩ := hrel
    have Hbw := Lib.hid hbw
    have hsw := hbw.size
    have hrow := (hbw.block _ hla).trans HB.out
    have a0 := cell_of_row wr w.heap.size 0 _ _ _ hrow
    have a1 := cell_of_row wr w.heap.size 1 _ _ _ hrow
    have a2 := cell_of_row wr w.heap.size 2 _ _ _ hrow
    clear hbw hrow
    by_cases hkn : k < n
    · have hkn' : (k : Int) < (n : Int) := by omega
      have hkl : k < N.length := by have := Hn.out; omega
      obtain ⟨j, hj⟩ : ∃ j, k = j + 1 := ⟨k - 1, by omega⟩
      have hjl : j < N.length := by omega
      obtain ⟨b, off, rfl, hb, c0⟩ := (HN.out.below (Hba.out.trans (Hbw.out.mono (Nat.le_of_lt hla)))).at k hkl
      obtain ⟨b', off', e', -, c1⟩ := (HN.out.below (Hba.out.trans (Hbw.out.mono (Nat.le_of_lt hla)))).at j hjl
      injection e' with e'
      injection e' with e1 e2
      subst e1 e2
      have hlt : ¬ N[k] ≤ N[j] := by have := Hp.out j k hjl hkl (by omega); omega
      generalize N[k] = y at *
      generalize N[j] = z at *
      have hwk : IntKind.i64.wrap ((k : Int) - 1) = (j : Int) := by rw [show (k : Int) - 1 = (j : Int) by omega]; exact IntWalk.i64_in _ (by omega)
      have hjn : (j : Int) < (n : Int) := by omega
      have Hj := Lib.hid hj
      have hbw0 : b < wr.heap.size := hb
      clear hj
      go_wp2_with fail
      go_quiet (fail)
      go_wp2
      go_roundw
      case rel => exact ⟨k + 1, by omega, by omega, by go_num, below_drewN Hbw.out _⟩
      case measure => simp [intOf]; omega
    · have hkn' : ¬ (k : Int) < (n : Int) := by omega
      have hs0 : w.heap.size ≤ wa.heap.size := Nat.le_of_lt hla
      have Hb1 := Lib.hid (Hba.out.trans (Hbw.out.mono hs0))
      go_wp2_with (first
        | (go_at_call 66
           refine (HCo.out _ Hb1.out).mono ?_
           rintro e w2 ⟨rfl, hb2⟩
           have hlr : w.heap.size < wr.heap.size := by omega
           have a22 := (hb2.cell (p := ⟨w.heap.size, 2, none⟩) hlr).trans a2
           have Hb2 := Lib.hid (Hb1.out.trans (hb2.mono (by omega)))
           have hs2 := Hb2.out.size
           clear hb2)
        | (go_at_call 102
           refine (HCk.out _ Hb2.out).mono ?_
           rintro e w3 ⟨rfl, hb3⟩)
        | fail)
      go_ret
      exact ⟨rfl, Hb2.out.trans (hb3.mono hs2)⟩
end Go.Proofs.YtglanlpjoaholaaGreat
