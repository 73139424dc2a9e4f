/- Contracts of the reference (layer 4): Valid, Same. -/
import Derived.Test.YtpcfhcdbibklcaaGreatU5
namespace Go.Proofs.YtpcfhcdbibklcaaGreat
open Go.RowKit
set_option linter.unusedVariables false
set_option linter.unusedSimpArgs false

set_option maxHeartbeats 8000000 in
set_option maxRecDepth 100000 in
theorem validR_any (A : Option Addr) (n c : Nat) (l : List R4) (w : World) (hA : SlR w A n c l) :
    Calls Tryz.prog 30 #[.agg #[.slice A n c]] w fun e w' => e = .returned (.bool (validP l)) ∧ Below w.heap.size w w' := by
  have hn := hA.len
  have HA := Lib.hid hA
  clear hA
  by_cases hbig : 120 < n
  · have hv : validP l = false := by unfold validP; rw [decide_eq_false (by omega)]; rfl
    have hb' : (120 : Int) < (n : Int) := by omega
    rw [hv]
    clear hv
    go_enter Tryz.func30, Tryz.ntmps30
    go_wp2
    go_ret
    exact ⟨rfl, (by repeat' (first | with_reducible exact Below.refl _ _ | with_reducible refine below_drewN ?_ _ | with_reducible refine Below.drew ?_ | with_reducible refine Below.alloc ?_ ?_ _ | with_reducible refine Below.setCell ?_ ?_ _ | with_reducible refine Below.trans ?_ (Below.mono (by with_reducible assumption) ?_) | (simp; done) | (simp; omega) | omega))⟩
  · have hb' : ¬ (120 : Int) < (n : Int) := by omega
    have Hv : Hid (validP l = (l.all R4.ok && decide (canonP l = l))) := Lib.hid (by unfold validP; rw [decide_eq_true (by omega)]; rfl)
    generalize validP l = res at *
    go_enter Tryz.func30, Tryz.ntmps30
    go_upto_region 4 with fail
    obtain ⟨w0, hw0⟩ : ∃ w0 : World, w0 = w.alloc (.cells #[.slice A n c] 25) := ⟨_, rfl⟩
    rw [← hw0]
    have hr0 : w0.heap[w.heap.size]? = some (.cells #[.slice A n c] 25 (0, 0)) := by rw [hw0]; exact heap_alloc_new w _
    have hs0 : w.heap.size < w0.heap.size := by rw [hw0]; simp
    have Hb0 : Hid (Below w.heap.size w w0) := Lib.hid (by rw [hw0]; exact (by repeat' (first | with_reducible exact Below.refl _ _ | with_reducible refine below_drewN ?_ _ | with_reducible refine Below.drew ?_ | with_reducible refine Below.alloc ?_ ?_ _ | with_reducible refine Below.setCell ?_ ?_ _ | with_reducible refine Below.trans ?_ (Below.mono (by with_reducible assumption) ?_) | (simp; done) | (simp; omega) | omega)))
    have Hr0 := Lib.hid hr0
    clear hw0 hr0
    go_loopw [4, 12] (fun _ i wr => ∃ k : Nat, k ≤ n ∧ i = .int .i64 (k : Int) ∧ Hid ((l.take k).all R4.ok = true) ∧ Below w0.heap.size w0 wr) (fun _ i _ => n - (intOf i).toNat)
    case atStart => exact ⟨0, Nat.zero_le _, rfl, Lib.hid rfl, Below.refl _ _⟩
    case round =>
      obtain ⟨k, hk, rfl, Hall, hbr⟩ := hrel
      have hsr := hbr.size
      have hwr : Below w.heap.size w wr := Hb0.out.trans (hbr.mono (by omega))
      have Hwr := Lib.hid hwr
      have Hbr := Lib.hid hbr
      by_cases hkn : k < n
      · have hl : k < l.length := by omega
        obtain ⟨b, off, rfl, hbl, c0, c1, c2, c3⟩ := (HA.out.below hwr).at k hl
        have Hs := Lib.hid (all_take_succ l R4.ok k hl)
        have Hno : Hid (l[k].ok = false → res = false) := Lib.hid (fun h => by
          rw [Hv.out]
          have : l.all R4.ok = false := by
            cases h2 : l.all R4.ok with
            | false => rfl
            | true =>
              rw [List.all_eq_true] at h2
              rw [h2 l[k] (List.getElem_mem hl)] at h
              cases h
          rw [this]; rfl)
        have hkn' : (k : Int) < (n : Int) := by omega
        generalize l[k] = q at *
        have Hpr := Lib.hid (fun W => properR_any q W)
        cases hq : q.ok with
        | true =>
          rw [hq] at Hs Hpr
          clear hwr hbr
          go_wp2_with (first | (go_at_call 63; refine (Hpr.out _).mono ?_; rintro e w2 ⟨rfl, hb2⟩; have hs2 := hb2.size; simp at hs2) | fail)
          go_roundw
          case rel => exact ⟨k + 1, by omega, by go_num, Lib.hid (by rw [Hs.out, Hall.out]; rfl), by have h1 := Hbr.out; exact (by repeat' (first | with_reducible exact Below.refl _ _ | with_reducible assumption | with_reducible refine below_drewN ?_ _ | with_reducible refine Below.drew ?_ | with_reducible refine Below.alloc ?_ ?_ _ | with_reducible refine Below.setCell ?_ ?_ _ | with_reducible refine Below.trans ?_ (Below.mono (by with_reducible assumption) ?_) | with_reducible refine below_only ?_ (by with_reducible assumption) ?_ ?_ | (simp; done) | (simp; omega) | omega))⟩
          case measure => simp [intOf]; omega
        | false =>
          rw [hq] at Hs Hpr
          have Hres := Lib.hid (Hno.out hq)
          clear hwr hbr
          go_wp2_with (first | (go_at_call 63; refine (Hpr.out _).mono ?_; rintro e w2 ⟨rfl, hb2⟩; have hs2 := hb2.size; simp at hs2) | fail)
          go_ret
          exact ⟨by rw [Hres.out]; rfl, by have h1 := Hwr.out; exact (by repeat' (first | with_reducible exact Below.refl _ _ | with_reducible assumption | with_reducible refine below_drewN ?_ _ | with_reducible refine Below.drew ?_ | with_reducible refine Below.alloc ?_ ?_ _ | with_reducible refine Below.setCell ?_ ?_ _ | with_reducible refine Below.trans ?_ (Below.mono (by with_reducible assumption) ?_) | with_reducible refine below_only ?_ (by with_reducible assumption) ?_ ?_ | (simp; done) | (simp; omega) | omega))⟩
      · have hall : l.all R4.ok = true := by have := Hall.out; rw [List.take_of_length_le (by omega)] at this; exact this
        have Hpos := Lib.hid (ok_pos hall)
        have Hv2 : Hid (res = decide (combP (· || ·) l [] = l)) := Lib.hid (by rw [Hv.out, hall, canonP_comb l Hpos.out]; rfl)
        have Hcomb := Lib.hid (fun W (hW : SlR W A n c l) => combineR_any A none n c 0 0 l [] 1 W hW (SlR.nil W) (by omega))
        rw [howR_or] at Hcomb
        have hkn' : ¬ (k : Int) < (n : Int) := by omega
        have HAr := Lib.hid (HA.out.below Hwr.out)
        generalize combP (· || ·) l [] = cl at *
        have hr1 : wr.heap[w.heap.size]? = some (.cells #[.slice A n c] 25 (0, 0)) := (hbr.block _ hs0).trans Hr0.out
        have cr := cell_of_row wr w.heap.size 0 _ _ _ hr1
        have hsz0 : w.heap.size < wr.heap.size := by omega
        have hsz1 : w.heap.size ≤ wr.heap.size := by omega
        clear hwr hbr hall hr1
        go_upto_region 9 with fail
        go_region_held3 (fun w' => w'.cell? ⟨w.heap.size, 0, none⟩ = some (.slice A n c))
          (first | go_keep | exact (Hb2.out.cell (p := ⟨w.heap.size, 0, none⟩) hsz0).trans cr)
          (first
            | (go_at_call 59
               refine (Hcomb.out _ (HAr.out.below (Below.mono (by repeat' (first | with_reducible exact Below.refl _ _ | with_reducible refine below_drewN ?_ _ | with_reducible refine Below.drew ?_ | with_reducible refine Below.alloc ?_ ?_ _ | with_reducible refine Below.setCell ?_ ?_ _ | with_reducible refine Below.trans ?_ (Below.mono (by with_reducible assumption) ?_) | (simp; done) | (simp; omega) | omega)) (Nat.le_refl _)))).mono ?_
               rintro e w2 ⟨v2, rfl, hown2, hb2⟩
               obtain ⟨C, cc, rfl, hC⟩ := SlR.of_own hown2
               have HC := Lib.hid hC
               have Hb2 : Hid (Below wr.heap.size wr w2) := Lib.hid (show Below wr.heap.size wr w2 from (by have hbq := hb2; exact (by repeat' (first | with_reducible exact Below.refl _ _ | with_reducible assumption | with_reducible refine below_drewN ?_ _ | with_reducible refine Below.drew ?_ | with_reducible refine Below.alloc ?_ ?_ _ | with_reducible refine Below.setCell ?_ ?_ _ | with_reducible refine Below.trans ?_ (Below.mono (by with_reducible assumption) ?_) | with_reducible refine below_only ?_ (by with_reducible assumption) ?_ ?_ | (simp; done) | (simp; omega) | omega))))
               have cg2 := (Hb2.out.cell (p := ⟨w.heap.size, 0, none⟩) hsz0).trans cr
               clear hown2 hb2 hC)
            | (go_at_call 60
               refine (rectsR_any C A cl.length cc n c cl l _ (HC.out.below (by repeat' (first | with_reducible exact Below.refl _ _ | with_reducible refine below_drewN ?_ _ | with_reducible refine Below.drew ?_ | with_reducible refine Below.alloc ?_ ?_ _ | with_reducible refine Below.setCell ?_ ?_ _ | with_reducible refine Below.trans ?_ (Below.mono (by with_reducible assumption) ?_) | (simp; done) | (simp; omega) | omega))) (HAr.out.below (Hb2.out.trans (Below.mono (by repeat' (first | with_reducible exact Below.refl _ _ | with_reducible refine below_drewN ?_ _ | with_reducible refine Below.drew ?_ | with_reducible refine Below.alloc ?_ ?_ _ | with_reducible refine Below.setCell ?_ ?_ _ | with_reducible refine Below.trans ?_ (Below.mono (by with_reducible assumption) ?_) | (simp; done) | (simp; omega) | omega)) Hb2.out.size)))).mono ?_
               rintro e w3 ⟨rfl, hb3⟩
               rw [← Hv2.out]
               have Hb3 : Hid (Below w2.heap.size w2 w3) := Lib.hid (show Below w2.heap.size w2 w3 from (by have hbq := hb3; exact (by repeat' (first | with_reducible exact Below.refl _ _ | with_reducible assumption | with_reducible refine below_drewN ?_ _ | with_reducible refine Below.drew ?_ | with_reducible refine Below.alloc ?_ ?_ _ | with_reducible refine Below.setCell ?_ ?_ _ | with_reducible refine Below.trans ?_ (Below.mono (by with_reducible assumption) ?_) | with_reducible refine below_only ?_ (by with_reducible assumption) ?_ ?_ | (simp; done) | (simp; omega) | omega))))
               have cg3 := (Hb3.out.cell (p := ⟨w.heap.size, 0, none⟩) (Nat.lt_of_lt_of_le hsz0 Hb2.out.size)).trans cg2
               clear hb3)
            | fail)
        all_goals go_wp2
        all_goals go_ret
        all_goals exact ⟨by first | rfl | simp, Hwr.out.trans ((Hb2.out.trans (Hb3.out.mono Hb2.out.size)).mono hsz1)⟩

end Go.Proofs.YtpcfhcdbibklcaaGreat
