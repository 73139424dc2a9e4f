/- Contracts: line, Check (claim), where all is right, or the parcel is not there. -/
import Derived.Test.YtglanlpjoaholaaGreatYA
namespace Go.Proofs.YtglanlpjoaholaaGreat
open Go.RowKit Go.Shelf
set_option linter.unusedVariables false
set_option linter.unusedSimpArgs false

/-- Parcels, schemes and a catalogue that are right, where they lie. -/
structure PcV (w : World) (NA : Option Addr) (n kc : Nat) (N : List Int) (RA : Option Addr) (rc : Nat) (R : RL) (CA : Option Addr) (m cc : Nat) (C : List Cp) : Prop where
  hN : SlI w NA n kc N
  hR : SlG w RA n rc R
  hC : SlC w CA m cc C
  hn : n ≤ 60
  hp : N.Pairwise (· < ·)
  hv : ∀ x ∈ R, validP x.1 = true
  hc : cropsB C
theorem PcV.below {w w' : World} {NA RA CA : Option Addr} {n kc rc m cc : Nat} {N : List Int} {R : RL} {C : List Cp} (h : PcV w NA n kc N RA rc R CA m cc C) (hb : Below w.heap.size w w') : PcV w' NA n kc N RA rc R CA m cc C := ⟨h.hN.below hb, h.hR.below hb, h.hC.below hb, h.hn, h.hp, h.hv, h.hc⟩
/-- What a line has to be, beside its parcel. -/
structure LnFine (N : List Int) (R : RL) (m : Nat) (mask : Int) (x : Ln) : Prop where
  inN : x.pc ∈ N
  ne : x.rg ≠ []
  val : validP x.rg = true
  wi : ∀ i (h : i < R.length), N[i]? = some x.pc → withinP x.rg R[i].1 = true
  cr : 0 ≤ x.cr ∧ x.cr < (m : Int)
  s0 : ¬ x.sch = 0
  sm : bits BinOp.andNot IntKind.i64 x.sch mask = 0

set_option maxHeartbeats 8000000 in
set_option maxRecDepth 100000 in
theorem pline_any (NA : Option Addr) (n kc : Nat) (N : List Int) (RA : Option Addr) (rc : Nat) (R : RL) (CA : Option Addr) (m cc : Nat) (C : List Cp) (mask : Int) (x : Ln) (v : LV) (w : World) (hP : PcV w NA n kc N RA rc R CA m cc C) (hx : SlR w v.a x.rg.length v.c x.rg) (res : Int) (hres : (res = 0 ∧ LnFine N R m mask x) ∨ (res = 10 ∧ x.pc ∉ N)) :
    Calls Tryz.prog 48 #[.agg #[.slice NA n kc, .slice RA n rc, .slice CA m cc, .int .i64 mask], .agg #[.int .i64 x.pc, .slice v.a x.rg.length v.c, .int .i64 x.cr, .int .i64 x.sch]] w fun e w' => e = .returned (.int .i64 res) ∧ Below w.heap.size w w' := by
  have HP := Lib.hid hP
  have HX := Lib.hid hx
  have Hres := Lib.hid hres
  have HCk := Lib.hid (fun W (hW : Below w.heap.size w W) => pcheck_any NA n kc N RA rc R CA m cc C mask W (hP.hN.below hW) (hP.hR.below hW) (hP.hC.below hW) hP.hn hP.hp hP.hv hP.hc)
  have hn60 := hP.hn
  have HSe := Lib.hid (fun W (hW : Below w.heap.size w W) => search_any NA n kc N x.pc W (hP.hN.below hW) (by omega) hP.hp)
  have HVa := Lib.hid (fun W (hW : Below w.heap.size w W) => valid_any v.a x.rg.length v.c x.rg W (hx.below hW))
  obtain ⟨pc, rg, cr, sch⟩ := x
  dsimp only at *
  clear hP hx hres
  go_enter Tryz.func48, Tryz.ntmps48
  go_upto_region 1 with fail
  obtain ⟨wa, hwa⟩ : ∃ wa : World, wa = (w.alloc (.cells #[.slice NA n kc, .slice RA n rc, .slice CA m cc, .int .i64 mask] 77)).alloc (.cells #[.int .i64 pc, .slice v.a rg.length v.c, .int .i64 cr, .int .i64 sch] 38) := ⟨_, rfl⟩
  rw [← hwa]
  have HG : Hid (wa.heap[w.heap.size]? = some (.cells #[.slice NA n kc, .slice RA n rc, .slice CA m cc, .int .i64 mask] 77 (0, 0))) := Lib.hid (by rw [hwa]; exact (Below.heap_alloc _ _ _ (by simp)).trans (heap_alloc_new w _))
  have HE : Hid (wa.heap[w.heap.size + 1]? = some (.cells #[.int .i64 pc, .slice v.a rg.length v.c, .int .i64 cr, .int .i64 sch] 38 (0, 0))) := Lib.hid (by rw [hwa]; have hzz := heap_alloc_new (w.alloc (.cells #[.slice NA n kc, .slice RA n rc, .slice CA m cc, .int .i64 mask] 77)) (.cells #[.int .i64 pc, .slice v.a rg.length v.c, .int .i64 cr, .int .i64 sch] 38); rw [World.size_alloc] at hzz; exact hzz)
  have Hba : Hid (Below w.heap.size w wa) := Lib.hid (by rw [hwa]; exact (by repeat' (first | with_reducible exact Below.refl _ _ | with_reducible refine below_drewN ?_ _ | with_reducible refine Below.drew ?_ | with_reducible refine Below.alloc ?_ ?_ _ | with_reducible refine Below.setCell ?_ ?_ _ | with_reducible refine Below.trans ?_ (Below.mono (by with_reducible assumption) ?_) | (simp; done) | (simp; omega) | omega)))
  have hlE : w.heap.size + 1 < wa.heap.size := by rw [hwa]; simp
  clear hwa
  obtain ⟨E, hE⟩ : ∃ E, w.heap.size + 1 = E := ⟨_, rfl⟩
  rw [hE] at HE hlE ⊢
  have hGE : w.heap.size < E := by omega
  clear hE
  have a0 := cell_of_row wa w.heap.size 0 _ _ _ HG.out
  have a1 := cell_of_row wa w.heap.size 1 _ _ _ HG.out
  have a2 := cell_of_row wa w.heap.size 2 _ _ _ HG.out
  have a3 := cell_of_row wa w.heap.size 3 _ _ _ HG.out
  go_wp2_with fail
  refine (HCk.out _ Hba.out).mono ?_
  rintro e w1 ⟨rfl, hb1⟩
  have hG1 := (hb1.block _ (by omega)).trans HG.out
  have hE1 := (hb1.block _ hlE).trans HE.out
  have Hb1 := Lib.hid (Hba.out.trans (hb1.mono (by omega)))
  have hs1 := hb1.size
  have HG1 := Lib.hid hG1
  have HE1 := Lib.hid hE1
  clear a0 a1 a2 a3 hb1 hG1 hE1 HG HE
  have a0 := cell_of_row w1 w.heap.size 0 _ _ _ HG1.out
  have a1 := cell_of_row w1 w.heap.size 1 _ _ _ HG1.out
  have a2 := cell_of_row w1 w.heap.size 2 _ _ _ HG1.out
  have a3 := cell_of_row w1 w.heap.size 3 _ _ _ HG1.out
  have e0 := cell_of_row w1 E 0 _ _ _ HE1.out
  have e1 := cell_of_row w1 E 1 _ _ _ HE1.out
  have e2 := cell_of_row w1 E 2 _ _ _ HE1.out
  have e3 := cell_of_row w1 E 3 _ _ _ HE1.out
  have hlE1 : E < w1.heap.size := by omega
  go_wp2_with fail
  refine (HSe.out _ Hb1.out).mono ?_
  rintro e w' ⟨⟨i, b, rfl, hfd⟩, rfl⟩
  have Hfd := Lib.hid hfd
  clear hfd
  cases b with
  | false =>
    have He : Hid (res = 10) := Lib.hid (by
      rcases Hres.out with h | h
      · exact absurd h.2.inN (Hfd.out.2.2 rfl)
      · exact h.1)
    go_wp2
    go_ret
    exact ⟨by rw [He.out]; rfl, Hb1.out⟩
  | true =>
    have hat := Hfd.out.2.1 rfl
    have hmem : pc ∈ N := List.mem_of_getElem? hat
    have hfine : res = 0 ∧ LnFine N R m mask ⟨pc, rg, cr, sch⟩ := by
      rcases Hres.out with h | h
      · exact h
      · exact absurd hmem h.2
    have hiR : i < R.length := by
      have h1 := (List.getElem?_eq_some_iff.1 hat).1
      have h2 := HP.out.hN.len
      have h3 := HP.out.hR.len
      omega
    have hin : (i : Int) < (n : Int) := by have := HP.out.hR.len; omega
    have hin2 : i < n := by omega
    have He : Hid (res = 0) := Lib.hid hfine.1
    obtain ⟨-, hne, hval, hwi, ⟨hcr0, hcrm⟩, hs0, hsm⟩ := hfine.2
    dsimp only at hne hval hwi hcr0 hcrm hs0 hsm
    have hwi := hwi i hiR hat
    have hrl : ¬ rg.length = 0 := fun h => hne (List.length_eq_zero_iff.1 h)
    have hrl' : ¬ (rg.length : Int) = 0 := by omega
    have hcr0' : ¬ cr < 0 := by omega
    have hcrm' : ¬ (m : Int) ≤ cr := by omega
    obtain ⟨br, off, rfl, hbr, cR, hSR⟩ := (HP.out.hR.below Hb1.out).at i hiR
    have HSR := Lib.hid hSR
    have HW := Lib.hid (fun W (hW : Below w1.heap.size w1 W) => within_any v.a R[i].2.a rg.length v.c R[i].1.length R[i].2.c rg R[i].1 W ((HX.out.below Hb1.out).below hW) (HSR.out.below hW))
    rw [hwi] at HW
    have HVb := Lib.hid (fun W (hW : Below w1.heap.size w1 W) => HVa.out W (Hb1.out.trans (hW.mono (by omega))))
    rw [hval] at HVb
    obtain ⟨rp, hrp⟩ : ∃ rp, R[i] = rp := ⟨_, rfl⟩
    rw [hrp] at cR HW
    clear hrp hSR HSR hwi hval hne hmem hat hfine HVa
    go_upto_region 9 with (first
      | (go_at_call 68
         refine (HVb.out _ (Below.refl _ _)).mono ?_
         rintro e w2 ⟨rfl, hb2⟩
         have HG2 := Lib.hid ((hb2.block _ (by omega)).trans HG1.out)
         have HE2 := Lib.hid ((hb2.block _ hlE1).trans HE1.out)
         have cR2 := (hb2.cell (p := ⟨br, off + i, none⟩) hbr).trans cR
         have Hb2 := Lib.hid hb2
         have hs2 := hb2.size
         clear hb2)
      | fail)
    clear a0 a1 a2 a3 e0 e1 e2 e3 cR
    have a1 : w2.drew.cell? ⟨w.heap.size, 1, none⟩ = _ := cell_of_row w2 w.heap.size 1 _ _ _ HG2.out
    have e1 : w2.drew.cell? ⟨E, 1, none⟩ = _ := cell_of_row w2 E 1 _ _ _ HE2.out
    have cR3 : w2.drew.cell? ⟨br, off + i, none⟩ = some (.slice rp.2.a rp.1.length rp.2.c) := cR2
    clear cR2
    go_region_held3 (fun w' => w'.cell? ⟨w.heap.size, 1, none⟩ = some (.slice (some ⟨br, off, none⟩) n rc) ∧ w'.cell? ⟨E, 1, none⟩ = some (.slice v.a rg.length v.c) ∧ w'.cell? ⟨br, off + i, none⟩ = some (.slice rp.2.a rp.1.length rp.2.c)) (first | with_reducible exact ⟨a1, e1, cR3⟩ | go_keep | ((repeat' apply And.intro) <;> go_keep))
      (first
        | (go_at_call 78
           refine (HW.out _ (Below.drew Hb2.out)).mono ?_
           rintro e w3 ⟨rfl, hb3⟩
           have hb3' : Below w2.heap.size w2 w3 := (have hbq := hb3; (by repeat' (first | with_reducible exact Below.refl _ _ | with_reducible assumption | with_reducible refine below_drewN ?_ _ | with_reducible refine Below.drew ?_ | with_reducible refine Below.alloc ?_ ?_ _ | with_reducible refine Below.setCell ?_ ?_ _ | with_reducible refine Below.trans ?_ (Below.mono (by with_reducible assumption) ?_) | with_reducible refine below_only ?_ (by with_reducible assumption) ?_ ?_ | (simp; done) | (simp; omega) | omega)))
           have HG3 := Lib.hid ((hb3'.block _ (by omega)).trans HG2.out)
           have HE3 := Lib.hid ((hb3'.block _ (by omega)).trans HE2.out)
           have a13 := cell_of_row w3 w.heap.size 1 _ _ _ HG3.out
           have e13 := cell_of_row w3 E 1 _ _ _ HE3.out
           have cR4 := (hb3'.cell (p := ⟨br, off + i, none⟩) (by show br < w2.heap.size; omega)).trans cR3
           have Hb3 := Lib.hid (Hb2.out.trans (hb3'.mono hs2))
           clear hb3 hb3')
        | fail)
    clear a1 e1 cR3 a13 e13 cR4
    have a2 := cell_of_row w3 w.heap.size 2 _ _ _ HG3.out
    have a3 := cell_of_row w3 w.heap.size 3 _ _ _ HG3.out
    have e2 := cell_of_row w3 E 2 _ _ _ HE3.out
    have e3 := cell_of_row w3 E 3 _ _ _ HE3.out
    go_wp2
    go_ret
    exact ⟨by rw [He.out]; rfl, Hb1.out.trans (Hb3.out.mono (by omega))⟩

set_option maxHeartbeats 2000000 in
set_option maxRecDepth 100000 in
theorem checkC_any (NA : Option Addr) (n kc : Nat) (N : List Int) (RA : Option Addr) (rc : Nat) (R : RL) (CA : Option Addr) (m cc : Nat) (C : List Cp) (mask : Int) (x : Ln) (v : LV) (w : World) (hP : PcV w NA n kc N RA rc R CA m cc C) (hx : SlR w v.a x.rg.length v.c x.rg) (res : Int) (hres : (res = 0 ∧ LnFine N R m mask x) ∨ (res = 10 ∧ x.pc ∉ N)) :
    Calls Tryz.prog 29 #[.agg #[.int .i64 x.pc, .slice v.a x.rg.length v.c, .int .i64 x.cr, .int .i64 x.sch], .slice NA n kc, .slice RA n rc, .slice CA m cc, .int .i64 mask] w fun e w' => e = .returned (.int .i64 res) ∧ Below w.heap.size w w' := by
  have HL := Lib.hid (fun W (hW : Below w.heap.size w W) => pline_any NA n kc N RA rc R CA m cc C mask x v W (hP.below hW) (hx.below hW) res hres)
  obtain ⟨pc, rg, cr, sch⟩ := x
  dsimp only at *
  clear hP hx hres
  go_enter Tryz.func29, Tryz.ntmps29
  go_wp2_with fail
  refine (HL.out _ (by repeat' (first | with_reducible exact Below.refl _ _ | with_reducible refine below_drewN ?_ _ | with_reducible refine Below.drew ?_ | with_reducible refine Below.alloc ?_ ?_ _ | with_reducible refine Below.setCell ?_ ?_ _ | with_reducible refine Below.trans ?_ (Below.mono (by with_reducible assumption) ?_) | (simp; done) | (simp; omega) | omega))).mono ?_
  rintro e w1 ⟨rfl, hb1⟩
  go_wp2
  go_ret
  exact ⟨rfl, (by repeat' (first | with_reducible exact Below.refl _ _ | with_reducible assumption | with_reducible refine below_drewN ?_ _ | with_reducible refine Below.drew ?_ | with_reducible refine Below.alloc ?_ ?_ _ | with_reducible refine Below.setCell ?_ ?_ _ | with_reducible refine Below.trans ?_ (Below.mono (by with_reducible assumption) ?_) | with_reducible refine below_only ?_ (by with_reducible assumption) ?_ ?_ | (simp; done) | (simp; omega) | omega))⟩
end Go.Proofs.YtglanlpjoaholaaGreat
