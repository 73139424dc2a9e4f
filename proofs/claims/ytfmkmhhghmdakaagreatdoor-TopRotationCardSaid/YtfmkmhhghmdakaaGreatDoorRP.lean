import Derived.Test.YtfmkmhhghmdakaaGreatDoorRE
import Derived.Test.YtfmkmhhghmdakaaGreatDoorRG
import Derived.Test.YtfmkmhhghmdakaaGreatDoorRI
import Derived.Test.YtfmkmhhghmdakaaGreatDoorRN
namespace Go.Proofs.YtfmkmhhghmdakaaGreatDoor
set_option maxHeartbeats 64000000
set_option maxRecDepth 100000
open Go.RowKit Go.Shelf
set_option linter.unusedVariables false
set_option linter.unusedSimpArgs false
section
variable {w w' : World} {B b0 : Nat} {v : Value} {l : RcL}
end
end Go.Proofs.YtfmkmhhghmdakaaGreatDoor
namespace Go.Proofs.YtfmkmhhghmdakaaGreatDoor
open Go.RowKit Go.Shelf
set_option linter.unusedVariables false
set_option linter.unusedSimpArgs false
set_option maxHeartbeats 64000000
set_option maxRecDepth 100000
end Go.Proofs.YtfmkmhhghmdakaaGreatDoor
namespace Go.Proofs.YtfmkmhhghmdakaaGreatDoor
open Go.RowKit Go.Shelf Go.Maps
set_option linter.unusedVariables false
set_option linter.unusedSimpArgs false
set_option maxHeartbeats 64000000
set_option maxRecDepth 100000
theorem ofY_pair {l : RcL} (h : HyOk (rcs l)) (y : Int) : (ofY l y).Pairwise fun a b => meetsP a.1.rg b.1.rg = false := by
  have h1 : (rcs l).Pairwise fun a b => a.yr = b.yr → meetsP a.rg b.rg = false := h.dis
  unfold rcs at h1
  rw [List.pairwise_map] at h1
  unfold ofY
  refine List.Pairwise.imp_of_mem ?_ (List.Pairwise.filter _ h1)
  intro a b ha hb hab
  have h2 := (List.mem_filter.1 ha).2
  have h3 := (List.mem_filter.1 hb).2
  exact hab (by simp at h2 h3; omega)
theorem checkHy_any (A : Option Addr) (n c : Nat) (l : RcL) (w : World) (hA : SlRc w A n c l) (hl : HyOk (rcs l)) :
    Calls Tryz.prog 98 #[.slice A n c] w fun e w' => e = .returned (.int .i64 0) ∧ Below w.heap.size w w' := by
  have hln := hA.len
  have hn200 : n ≤ 200 := by have := hl.len; rw [rcs_len] at this; omega
  have hn200' : ¬ (200 : Int) < (n : Int) := by omega
  have HY := Lib.hid (fun W (h : SlRc W A n c l) => years_any A n c l W h hn200 (fun x hx => (hl.ok x.1 (List.mem_map_of_mem hx)).yr))
  have eg : ∀ args w, (callFunc 200 args).run Tryz.prog w = .ok (.enter 200 args) w := enters_of Tryz.func200 (by kernel_rfl) rfl
  have Heg := Lib.hid eg
  have HA := Lib.hid hA
  have HL := Lib.hid hl
  have Hln := Lib.hid hln
  clear hA hl hln eg
  go_enter Tryz.func98, Tryz.ntmps98
  go_wp2
  go_loopw [3, 4, 5, 15] (fun _ _ _ iv wr => ∃ i : Nat, i ≤ n ∧ iv = .int .i64 (i : Int) ∧ Below w.heap.size w wr) (fun _ _ _ iv _ => n - (intOf iv).toNat)
  case atStart => exact ⟨0, Nat.zero_le _, rfl, Below.refl _ _⟩
  case round =>
    obtain ⟨i, hi, rfl, hbw⟩ := hrel
    obtain ⟨wo, rfl⟩ : ∃ wo : World, wo = wr := ⟨_, rfl⟩
    have Hbw := Lib.hid hbw
    have hsw := hbw.size
    clear hbw
    by_cases hin : i < n
    · have hin' : (i : Int) < (n : Int) := by omega
      have hil : i < l.length := by rw [Hln.out]; exact hin
      obtain ⟨b, off, rfl, hbl, c0, c1, c2, hS⟩ := (HA.out.below Hbw.out).at i hil
      have hok := HL.out.ok l[i].1 (List.mem_map_of_mem (List.getElem_mem hil))
      have HSi := Lib.hid (fun W (h : SlR W l[i].2.a l[i].1.rg.length l[i].2.c l[i].1.rg) => singleRc_any l[i].1 l[i].2 W hok h)
      have hup := fun (h0 : 0 < i) => HL.out.step (i - 1) i (by omega) hil
      have Hup := Lib.hid hup
      obtain ⟨x, hx⟩ : ∃ x, x = l[i] := ⟨_, rfl⟩
      rw [← hx] at c0 c1 c2 hS HSi
      have Hx := Lib.hid hx
      have HS := Lib.hid hS
      clear hS hup hx hok
      go_upto_region 6 with fail
      obtain ⟨w1, hw1⟩ : ∃ w1 : World, w1 = wo.alloc (.cells #[.int .i64 x.1.yr, .int .i64 x.1.cr, .slice x.2.a x.1.rg.length x.2.c] 172) := ⟨_, rfl⟩
      rw [← hw1]
      obtain ⟨X, hX⟩ : ∃ X, X = wo.heap.size := ⟨_, rfl⟩
      have Hr1 : Hid (w1.heap[X]? = some (.cells #[.int .i64 x.1.yr, .int .i64 x.1.cr, .slice x.2.a x.1.rg.length x.2.c] 172 (0, 0))) := Lib.hid (by rw [hw1, hX]; exact heap_alloc_new wo _)
      have Hb1 : Hid (Below wo.heap.size wo w1) := Lib.hid (by rw [hw1]; exact gBel)
      have hs1 : X < w1.heap.size := by rw [hw1, hX]; simp
      have hXo : wo.heap.size ≤ X := by omega
      have HS1 := Lib.hid (HS.out.below Hb1.out)
      have d0 := cell_of_row _ _ 0 _ _ _ Hr1.out
      have d1 := cell_of_row _ _ 1 _ _ _ Hr1.out
      have d2 := cell_of_row _ _ 2 _ _ _ Hr1.out
      rw [← hX]
      clear hw1 hX c0 c1 c2
      go_upto_region 9 with (first
        | (go_at_call 198
           refine (HSi.out _ HS1.out).mono ?_
           rintro e w2 ⟨rfl, hb2⟩
           have hr2 := (hb2.block X hs1).trans Hr1.out
           have Hr2 := Lib.hid hr2
           have Hb2 := Lib.hid (Hb1.out.trans (hb2.mono (by omega)))
           have hs2 : X < w2.heap.size := Nat.lt_of_lt_of_le hs1 hb2.size
           have e0 := cell_of_row _ _ 0 _ _ _ hr2
           have e1 := cell_of_row _ _ 1 _ _ _ hr2
           have e2 := cell_of_row _ _ 2 _ _ _ hr2
           clear hb2 hr2 d0 d1 d2)
        | fail)
      have Hb3 := Lib.hid (Hbw.out.trans (Hb2.out.mono hsw))
      rcases Nat.eq_zero_or_pos i with h0 | h0
      · subst h0
        go_quiet (fail)
        go_wp2
        go_roundw
        case rel => exact ⟨1, by omega, by go_num, ⟨Hb3.out.os, Hb3.out.tape, Hb3.out.output, Hb3.out.size, Hb3.out.block⟩⟩
        case measure => simp [intOf]; omega
      · have h0' : (0 : Int) < (i : Int) := by omega
        obtain ⟨b', off', hbe, hbl2, f0, f1, f2, _⟩ := (HA.out.below Hb3.out).at (i - 1) (by omega)
        injection hbe with hbe
        injection hbe with hb1 hb2
        subst hb1 hb2
        have hlt := Hup.out h0
        rw [← Hx.out] at hlt
        obtain ⟨y, hy⟩ : ∃ y, y = l[i - 1]'(by omega) := ⟨_, rfl⟩
        rw [← hy] at hlt f0 f1 f2
        have HC := Lib.hid (fun W => compareRc_any y.1 x.1 y.2 x.2 W)
        rw [rcCmp_lt.2 hlt] at HC
        obtain ⟨j, hj⟩ : ∃ j : Nat, j = i - 1 := ⟨_, rfl⟩
        rw [← hj] at f0 f1 f2
        have hwr : IntKind.i64.wrap ((i : Int) - 1) = (j : Int) := by rw [IntWalk.i64_in _ (by omega)]; omega
        have hj1 : j < n := by omega
        have hj2 : (j : Int) < (n : Int) := by omega
        have hj0 : (0 : Int) ≤ (j : Int) := by omega
        clear hy hj hlt
        go_region_held3 (fun w' => w'.cell? ⟨b, off + j * 3, none⟩ = some (.int .i64 y.1.yr) ∧ w'.cell? ⟨b, off + j * 3 + 1, none⟩ = some (.int .i64 y.1.cr) ∧ w'.cell? ⟨b, off + j * 3 + 2, none⟩ = some (.slice y.2.a y.1.rg.length y.2.c) ∧ w'.cell? ⟨X, 0, none⟩ = some (.int .i64 x.1.yr) ∧ w'.cell? ⟨X, 1, none⟩ = some (.int .i64 x.1.cr) ∧ w'.cell? ⟨X, 2, none⟩ = some (.slice x.2.a x.1.rg.length x.2.c))
          (first | exact ⟨f0, f1, f2, e0, e1, e2⟩ | go_keep | ((repeat' apply And.intro) <;> go_keep))
          (first
            | (go_at_call 119
               refine (HC.out _).mono ?_
               rintro e w3 ⟨rfl, hb3⟩
               have hbz : Below w2.heap.size w2 w3 := (Below.drew (Below.refl _ _)).trans hb3
               have k0 := (hbz.cell (p := ⟨b, off + j * 3, none⟩) hbl2).trans f0
               have k1 := (hbz.cell (p := ⟨b, off + j * 3 + 1, none⟩) hbl2).trans f1
               have k2 := (hbz.cell (p := ⟨b, off + j * 3 + 2, none⟩) hbl2).trans f2
               have k3 := (hbz.cell (p := ⟨X, 0, none⟩) hs2).trans e0
               have k4 := (hbz.cell (p := ⟨X, 1, none⟩) hs2).trans e1
               have k5 := (hbz.cell (p := ⟨X, 2, none⟩) hs2).trans e2
               have Hb4 : Hid (Below w.heap.size w w3) := Lib.hid (Hb3.out.trans (show Below w.heap.size w2 w3 from (Below.drew (Below.refl w.heap.size w2)).trans (hb3.mono (Nat.le_trans hsw Hb2.out.size))))
               clear hb3 hbz)
            | fail)
        all_goals go_wp2
        all_goals go_roundw
        case rel => exact ⟨i + 1, by omega, by go_num, Hb4.out⟩
        case measure => simp [intOf]; omega
    · have hin' : ¬ (i : Int) < (n : Int) := by omega
      clear hi hin
      go_upto_region 13 with (first
        | (go_at_call 199
           refine (HY.out _ (HA.out.below Hbw.out)).mono ?_
           rintro e wy ⟨b0, N, D, f, rfl, hb0, hN, hmap, hgrp, hby⟩
           have Hmap := Lib.hid hmap
           have Hgrp := Lib.hid hgrp
           have Hby : Hid (Below w.heap.size w wy) := Lib.hid (Hbw.out.trans (hby.mono hsw))
           have hbl := hmap.lt
           clear hmap hgrp hby)
        | (at_range
           refine wpList_range_own _ rfl _ 245 rfl 3 72 lawIntO Tryz.underlying245 VR b0 N D rfl Hmap.out ?_
           intro w0 hrg0 hg0 hs0
           have Hrg0 := Lib.hid hrg0
           have Hg0 := Lib.hid hg0
           have Hs0 := Lib.hid hs0
           clear hrg0 hg0 hs0)
        | fail)
      go_frame
      go_loopw [7, 8, 9] (fun _ _ _ wr => ∃ left cnt, wr.ranges Tryz.prog 3 VR b0 wy.heap.size N D left cnt ∧ w0.grownBy wr (some wy.heap.size)) (fun _ _ _ wr => wr.rangeLeft b0 wy.heap.size)
      case atStart => exact ⟨_, _, Hrg0.out, World.grownBy.refl _ _⟩
      case round =>
        obtain ⟨left, cnt, hrg, hgw⟩ := hrel
        obtain ⟨wp, rfl⟩ : ∃ wp : World, wp = wr := ⟨_, rfl⟩
        have Hgw := Lib.hid hgw
        go_wp2_with (first
          | (at_next; refine wpList_next_ranges _ rfl _ rfl 3 lawIntO VR (Value.int .i64) (fun v : Value => v) (fun key kl h => by obtain ⟨x, rfl, _⟩ := Maps.keyOf_int_inv Tryz.underlying3 h; exact ⟨x, rfl⟩) (fun v y h => ⟨v, rfl⟩) b0 wy.heap.size N D left cnt rfl hrg ?_ ?_)
          | fail)
        · intro _ _
          go_wp2
          go_ret
          exact ⟨rfl, (Hby.out.trans ((show Below wy.heap.size wy w0 from ⟨Hg0.out.os, Hg0.out.tape, Hg0.out.output, Hg0.out.size, fun i hi => Hg0.out.block i hi (by simp)⟩).mono Hby.out.size)).grown Hgw.out (by have := Hs0.out; have := Hby.out.size; omega) (fun g hg => by injection hg with hg; have := Hby.out.size; omega)⟩
        · intro y cV kl dv ps w1 cnt1 hkey hlk hVR hat hrg1 hlt hg1 hs1 hen
          obtain ⟨y', e1, rfl, _⟩ := Maps.keyOf_int_inv Tryz.underlying3 hkey
          injection e1 with _ e1
          subst e1
          have hfy : f y = cV := by
            have h1 := hat (.held (.slice none 0 0))
            rw [Hgrp.out.at' y] at h1
            unfold VR at hVR
            injection hVR with hVR
            injection hVR with h2 _
            rw [← h2] at h1
            injection h1
          have Hgw1 : Hid (w0.grownBy w1 (some wy.heap.size)) := Lib.hid (only_trans hgw hg1)
          have hown0 := Hgrp.out.own y
          have hown : w1.ownsRow (b0 + 1) 172 3 (f y) (ofY l y).length (rcCells (ofY l y)) := own_grown (own_grown hown0 Hg0.out (fun g hg e => by cases e)) Hgw1.out (fun g hg e => by have := own_lt hown0 g hg; injection e with e; omega)
          have hbw1 : Below w.heap.size w w1 := (Hby.out.trans ((show Below wy.heap.size wy w0 from ⟨Hg0.out.os, Hg0.out.tape, Hg0.out.output, Hg0.out.size, fun i hi => Hg0.out.block i hi (by simp)⟩).mono Hby.out.size)).grown Hgw1.out (by have := Hs0.out; have := Hby.out.size; omega) (fun g hg => by injection hg with hg; have := Hby.out.size; omega)
          have hpw := ofY_pair HL.out y
          have hol := ofY_len l y
          have hom : ∀ x ∈ ofY l y, x ∈ l := fun x hx => (List.mem_filter.1 hx).1
          have hfits : ∀ x ∈ ofY l y, SlR w1 x.2.a x.1.rg.length x.2.c x.1.rg := fun x hx => (HA.out.fits x (hom x hx)).below hbw1
          rw [hfy] at hown
          obtain ⟨Ay, cy, rfl, _, _, _⟩ := own_slice hown
          have HSy : Hid (SlRc w1 Ay (ofY l y).length cy (ofY l y)) := Lib.hid (SlRc.ofRow hown hfits)
          have Hpw := Lib.hid hpw
          have Hrg := Lib.hid hrg
          have Hrg1 := Lib.hid hrg1
          have Hlt := Lib.hid hlt
          have Hen := Lib.hid hen
          have hl200 : (ofY l y).length ≤ 200 := by have := Hln.out; omega
          generalize ofY l y = o at *
          obtain ⟨m, hm⟩ : ∃ m, o.length = m := ⟨_, rfl⟩
          have Hm := Lib.hid hm
          rw [hm] at HSy hl200 hen ⊢
          have hym := HSy.out.cap
          clear hkey hlk hVR hat hrg1 hlt hg1 hs1 hfy hown0 hown hbw1 hpw hol hom hfits hm hrg hgw Hen
          go_upto_region 16 with fail
          clear hen
          go_loopw [8, 9, 47] (fun _ _ jv wr => ∃ j : Nat, j ≤ m ∧ jv = .int .i64 (j : Int) ∧ Below w1.heap.size w1 wr) (fun _ _ jv _ => m - (intOf jv).toNat)
          case atStart => exact ⟨0, Nat.zero_le _, rfl, Below.refl _ _⟩
          case round =>
            obtain ⟨j, hj, rfl, hbj⟩ := hrel
            obtain ⟨wq, rfl⟩ : ∃ wq : World, wq = wr := ⟨_, rfl⟩
            have Hbj := Lib.hid hbj
            have hsj := hbj.size
            clear hbj
            by_cases hjm : j < m
            · have hjm' : (j : Int) < (m : Int) := by omega
              have hjl : j < o.length := by rw [Hm.out]; exact hjm
              obtain ⟨bb, off, rfl, hbl', c0, c1, c2, hS⟩ := (HSy.out.below Hbj.out).at j hjl
              have hS0 := HSy.out.fits o[j] (List.getElem_mem hjl)
              have Hno : Hid (∀ z ∈ o.take j, meetsP z.1.rg o[j].1.rg = false) := Lib.hid (fun z hz => by
                obtain ⟨i, hi, rfl⟩ := List.mem_take_iff_getElem.1 hz
                exact List.pairwise_iff_getElem.1 Hpw.out i j (by omega) hjl (by omega))
              obtain ⟨x, hx⟩ : ∃ x, x = o[j] := ⟨_, rfl⟩
              rw [← hx] at c0 c1 c2 hS hS0 Hno
              have HS0 := Lib.hid hS0
              clear hS hS0 hx
              go_upto_region 18 with fail
              obtain ⟨w2, hw2⟩ : ∃ w2 : World, w2 = wq.alloc (.cells #[.int .i64 x.1.yr, .int .i64 x.1.cr, .slice x.2.a x.1.rg.length x.2.c] 172) := ⟨_, rfl⟩
              rw [← hw2]
              obtain ⟨X, hX⟩ : ∃ X, X = wq.heap.size := ⟨_, rfl⟩
              have Hr2 : Hid (w2.heap[X]? = some (.cells #[.int .i64 x.1.yr, .int .i64 x.1.cr, .slice x.2.a x.1.rg.length x.2.c] 172 (0, 0))) := Lib.hid (by rw [hw2, hX]; exact heap_alloc_new wq _)
              have Hbj2 : Hid (Below w1.heap.size w1 w2) := Lib.hid (Hbj.out.trans ((show Below wq.heap.size wq w2 from (by rw [hw2]; exact gBel)).mono hsj))
              have hs2 : X < w2.heap.size := by rw [hw2, hX]; simp
              have hj0 : (0 : Int) ≤ (j : Int) := by omega
              have hjc : (j : Int) ≤ (cy : Int) := by omega
              have hjm2 : (j : Int) ≤ (m : Int) := by omega
              have HCn := Lib.hid (containsRc_any 200 #[.pointer (some ⟨X, 0, none⟩)] (fun z => meetsP z.1.rg x.1.rg) (some ⟨bb, off, none⟩) j cy (o.take j) w2 ((HSy.out.take j hj).below Hbj2.out) Heg.out (fun W hW z hz =>
                chk1_any z.1 x.1 z.2 x.2 X W ((HSy.out.fits z (List.mem_of_mem_take hz)).below (Hbj2.out.trans (hW.mono Hbj2.out.size))) (HS0.out.below (Hbj2.out.trans (hW.mono Hbj2.out.size))) (cell_of_row _ _ 2 _ _ _ ((hW.block X hs2).trans Hr2.out)) (Nat.lt_of_lt_of_le hs2 hW.size)))
              rw [show (o.take j).any (fun z => meetsP z.1.rg x.1.rg) = false from List.any_eq_false.2 (fun z hz => by rw [Hno.out z hz]; simp)] at HCn
              rw [← hX]
              clear hw2 hX c0 c1 c2
              go_wp2_with (first
                | (go_at_call 116
                   refine HCn.out.mono ?_
                   rintro e w3 ⟨rfl, hb3⟩
                   have Hb3 := Lib.hid (Hbj2.out.trans (hb3.mono Hbj2.out.size))
                   clear hb3)
                | fail)
              go_roundw
              case rel => exact ⟨j + 1, by omega, by go_num, Hb3.out⟩
              case measure => simp [intOf]; omega
            · have hjm' : ¬ (j : Int) < (m : Int) := by omega
              have hbg : wy.heap.size < w1.heap.size := Hrg1.out.lt
              have hbb : b0 < w1.heap.size := Hrg1.out.owns.lt
              have Hrg2 := Lib.hid (Hrg1.out.kept (Go.Proofs.YtfmkmhhghmdakaaGreatDoor.Below.grown_none Hbj.out) (by simp) (by simp))
              go_wp2
              go_roundw
              case rel => exact ⟨_, cnt1, Hrg2.out, only_below Hgw1.out Hbj.out Hgw1.out.size⟩
              case measure => rw [Hrg2.out.left_eq, Hrg.out.left_eq]; exact Hlt.out
end Go.Proofs.YtfmkmhhghmdakaaGreatDoor
namespace Go.Proofs.YtfmkmhhghmdakaaGreatDoor
open Go.RowKit Go.Shelf
set_option linter.unusedVariables false
set_option linter.unusedSimpArgs false
set_option maxHeartbeats 64000000
set_option maxRecDepth 100000
theorem rects_take (l : List Rc) (y : Int) (p : Int → Bool) (k : Nat) (h : k < l.length) : rectsP (l.take (k + 1)) y p = rectsP (l.take k) y p ++ (if l[k].yr = y ∧ p l[k].cr = true then l[k].rg else []) := by
  unfold rectsP
  rw [List.take_succ_eq_append_getElem h, List.flatMap_append, List.flatMap_cons, List.flatMap_nil, List.append_nil]
theorem SlR.rd4 {w : World} {A : Option Addr} {n c : Nat} {l : List R4} (h : SlR w A n c l) : Reads w w.heap.size 4 A n (rCells l) := h.lies.reads (size := 4) (by rw [rCells_len, h.len])
theorem wrong_any (y : Int) (w : World) (hy : 0 ≤ y ∧ y ≤ 100) : Calls Tryz.prog 99 #[.int .i64 y] w fun e w' => e = .returned (.bool false) ∧ w = w' := by
  have h1 : ¬ y < 0 := by omega
  have h2 : ¬ 100 < y := by omega
  go_enter Tryz.func99, Tryz.ntmps99
  go_wp2
  go_ret
  exact ⟨rfl, rfl⟩
def RowPost (w : World) (P : List R4) (e : Ending) (w' : World) : Prop :=
  ∃ v, e = .returned v ∧ w'.ownsRow w.heap.size 68 4 v P.length (rCells P) ∧ Below w.heap.size w w'
end Go.Proofs.YtfmkmhhghmdakaaGreatDoor
