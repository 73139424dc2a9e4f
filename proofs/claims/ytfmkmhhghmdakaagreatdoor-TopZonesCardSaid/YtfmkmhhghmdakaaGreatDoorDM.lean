/- How an argument that can be read is opened: a slice of integers. -/
import Derived.ProofKit
import Derived.Test.YtfmkmhhghmdakaaGreatDoorDA
import Derived.Test.YtfmkmhhghmdakaaGreatDoorDK
import Derived.Test.YtfmkmhhghmdakaaGreatDoorDL
namespace Go.Proofs.YtfmkmhhghmdakaaGreatDoor
open Go.RowKit Go.Shelf
set_option linter.unusedVariables false
set_option linter.unusedSimpArgs false

set_option maxHeartbeats 16000000 in
set_option maxRecDepth 100000 in
theorem zonesLaw (A : Option Addr) (n c : Nat) (zs : List Int) (wz : Int) (w : World) (hn : zs.length = n) (hc : n ≤ c) (hm : c ≤ maxLen) (hw : ∀ z ∈ zs, (Lit.int .i64 z).wf = true) (hA : Lies w A n (zs.map (.int .i64))) (hwz : 0 ≤ wz ∧ wz ≤ 255) :
    Calls Tryz.prog 4 #[.slice A n c, .int .u8 wz] w fun e w' => e = .returned (.bool true) ∧ Below w.heap.size w w' := by
  obtain ⟨i0, hi, hz0, hz1, hz2⟩ := info_parts Tryz.infoFt
  obtain ⟨i1, hj, hj0, hj1, hj2⟩ := info_parts Tryz.infoRegion
  have hdd : 0 ≤ wz.tmod 45 ∧ wz.tmod 45 ≤ 44 := ⟨Int.tmod_nonneg _ hwz.1, by have := Int.tmod_lt_of_pos wz (show (0 : Int) < 45 by omega); omega⟩
  have hv1 : IntKind.i64.wrap wz = wz := IntWalk.i64_in _ (by omega)
  obtain ⟨d, hd⟩ : ∃ d, wz.tmod 45 = d := ⟨_, rfl⟩
  rw [hd] at hdd
  have Hd := Lib.hid hd
  clear hd
  have HN := Lib.hid (new_any A n c zs w hn hc hm hw hA)
  clear hn hc hm hw hA
  go_enter Tryz.func4, Tryz.ntmps4
  go_wp2_with fail
  refine HN.out.mono ?_
  rintro e w1 ⟨g, rfl, hwg, ht1, hb1⟩
  have Ht1 := Lib.hid ht1
  have Hb1 := Lib.hid hb1
  have hg1 := ht1.lt
  have hs1 := hb1.size
  clear ht1 hb1 HN
  go_wp2_with fail
  refine (layer_any g _ w1 Ht1.out).mono ?_
  rintro e w2 ⟨l, v2, r2, rfl, hown2, hly, hreg, hl4, ht2, hg2⟩
  obtain ⟨A1, c1, rfl, _, _, _⟩ := own_slice hown2.o
  have Ht2 := Lib.hid ht2
  have Hg2 := Lib.hid hg2
  have HL2 := Lib.hid hown2
  have HS2 := Lib.hid hown2.sl
  have hz := zok_adj hly hreg (by rw [fts_len]; exact hl4)
  have Hz := Lib.hid hz
  have Hkd := Lib.hid (fun x (hx : x ∈ fts l) => (hly.ok x hx).kd)
  obtain ⟨nl, hnl⟩ : ∃ nl, l.length = nl := ⟨_, rfl⟩
  have Hnl := Lib.hid hnl
  rw [hnl] at HS2 hl4 ⊢
  have hs2 := hg2.size
  clear ht2 hg2 hown2 hly hreg hz hnl
  go_upto_region 4 with fail
  go_loopw [6, 8, 34] (fun lv _ iv wr => ∃ (k : Nat) (m : FtL), k ≤ nl ∧ iv = .int .i64 (k : Int) ∧ m.length = k ∧ fts m = ((fts l).take k).map adjF ∧ wr.ownsRow w2.heap.size 54 5 lv m.length (ftCells m) ∧ (∀ x ∈ m, w2.ownsRow w1.heap.size 68 4 (.slice x.2.a x.1.rg.length x.2.c) x.1.rg.length (rCells x.1.rg)) ∧ Below w2.heap.size w2 wr) (fun _ _ iv _ => nl - (intOf iv).toNat)
  case atStart => exact ⟨0, [], Nat.zero_le _, rfl, rfl, by simp [fts], World.ownsRow_nil _ _ _ _, fun x hx => (by cases hx), Below.refl _ _⟩
  case round =>
    obtain ⟨k, m, hk, rfl, hmk, hfm, hown, hms, hbw⟩ := hrel
    obtain ⟨wo, rfl⟩ : ∃ wo : World, wo = wr := ⟨_, rfl⟩
    have Hfm := Lib.hid hfm
    have Hown := Lib.hid hown
    have Hms := Lib.hid hms
    have Hbw := Lib.hid hbw
    have Hmk := Lib.hid hmk
    have hsw := hbw.size
    clear hfm hown hms hbw hmk
    by_cases hkn : k < nl
    · have hkn' : (k : Int) < (nl : Int) := by omega
      have hkl : k < l.length := by rw [Hnl.out]; exact hkn
      obtain ⟨b, off, rfl, hbl, c0, c1', c2, c3, c4, hS⟩ := (HS2.out.below Hbw.out).at k hkl
      have hkd := Hkd.out l[k].1 (List.mem_map_of_mem (List.getElem_mem hkl))
      have Hxo := Lib.hid (HL2.out.fs l[k] (List.getElem_mem hkl))
      have Hstep : Hid (∀ K, K = adjK l[k].1.kd → fts (m ++ [(⟨l[k].1.num, K, l[k].1.fr, l[k].1.un, l[k].1.rg⟩, l[k].2)]) = ((fts l).take (k + 1)).map adjF) := Lib.hid (fun K hK => by
        have h := List.take_succ_eq_append_getElem (l := fts l) (i := k) (by rw [fts_len]; exact hkl)
        rw [h, List.map_append, ← Hfm.out, fts_get l k hkl, hK]
        simp [fts, adjF])
      obtain ⟨x, hx⟩ : ∃ x, x = l[k] := ⟨_, rfl⟩
      rw [← hx] at c0 c1' c2 c3 c4 hS hkd Hstep Hxo
      clear hS hx
      go_upto_region 6 with fail
      obtain ⟨w3, hw3⟩ : ∃ w3 : World, w3 = wo.alloc (.cells #[.int .i64 x.1.num, .int .i64 x.1.kd, .int .i64 x.1.fr, .int .i64 x.1.un, .slice x.2.a x.1.rg.length x.2.c] 54) := ⟨_, rfl⟩
      rw [← hw3]
      have hr3 : w3.heap[wo.heap.size]? = some (.cells #[.int .i64 x.1.num, .int .i64 x.1.kd, .int .i64 x.1.fr, .int .i64 x.1.un, .slice x.2.a x.1.rg.length x.2.c] 54 (0, 0)) := by rw [hw3]; exact heap_alloc_new wo _
      have Hr3 := Lib.hid hr3
      have Hb3 : Hid (Below wo.heap.size wo w3) := Lib.hid (by rw [hw3]; exact (by repeat' (first | with_reducible exact Below.refl _ _ | with_reducible refine below_drewN ?_ _ | with_reducible refine Below.drew ?_ | with_reducible refine Below.alloc ?_ ?_ _ | with_reducible refine Below.setCell ?_ ?_ _ | with_reducible refine Below.trans ?_ (Below.mono (by with_reducible assumption) ?_) | (simp; done) | (simp; omega) | omega)))
      have hs3 : wo.heap.size < w3.heap.size := by rw [hw3]; simp
      have d1 := cell_of_row _ _ 1 _ _ _ hr3
      clear hw3 c0 c1' c2 c3 c4
      by_cases h8 : x.1.kd < 8
      · have h8' : ¬ (8 : Int) ≤ x.1.kd := by omega
        go_upto_region 8 with fail
        have HK : Hid (x.1.kd = adjK x.1.kd) := Lib.hid (by unfold adjK; rw [if_neg (by omega)])
        have e0 := cell_of_row _ _ 0 _ _ _ Hr3.out
        have e1 := cell_of_row _ _ 1 _ _ _ Hr3.out
        have e2 := cell_of_row _ _ 2 _ _ _ Hr3.out
        have e3 := cell_of_row _ _ 3 _ _ _ Hr3.out
        have e4 := cell_of_row _ _ 4 _ _ _ Hr3.out
        clear d1 hr3
        go_wp2_with (first
          | (at_builtin
             go_loud (refine wpList_append_any _ rfl (.tmp 50) (.tmp 52) _ rfl w2.heap.size 54 i0 _ 5 56 Tryz.underlying51 hi hz0 hz1 hz2 rfl (by omega) _ m.length (ftCells m) rfl ((ownsRow_below Hown.out Hb3.out).alloc _) _ _ 1 1 [.int .i64 x.1.num, .int .i64 x.1.kd, .int .i64 x.1.fr, .int .i64 x.1.un, .slice x.2.a x.1.rg.length x.2.c] rfl ⟨rfl, fun _ => ⟨_, rfl, Nat.lt_succ_self _, fun j u hu => (by exact news_any _ _ _ j u hu)⟩⟩ (by simp [Value.oneCell']) (by have := Hmk.out; simp only [maxLen]; omega) (by have := Hmk.out; omega) (by simp; omega) ?_)
             intro v5 w5 hown5 hg5 hat5
             have Hown5 : Hid (w5.ownsRow w2.heap.size 54 5 v5 (m.length + 1) (ftCells (m ++ [((Ft.mk x.1.num x.1.kd x.1.fr x.1.un x.1.rg, x.2) : Ft × LV)]))) := Lib.hid (by rw [ftCells_snoc]; exact hown5)
             have Hb5 := Lib.hid (((Hbw.out.trans (Hb3.out.mono hsw)).alloc (by omega) (.cells #[.int .i64 x.1.num, .int .i64 x.1.kd, .int .i64 x.1.fr, .int .i64 x.1.un, .slice x.2.a x.1.rg.length x.2.c] 54)).grown hg5 (by simp; omega) (own_base Hown.out))
             clear hown5 hg5 hat5)
          | fail)
        go_roundw
        case rel => exact ⟨k + 1, m ++ [((Ft.mk x.1.num x.1.kd x.1.fr x.1.un x.1.rg, x.2) : Ft × LV)], by omega, by go_num, by rw [List.length_append, Hmk.out]; rfl, Hstep.out _ HK.out, by rw [List.length_append]; exact Hown5.out, fun y hy => (by
          rcases List.mem_append.1 hy with h | h
          · exact Hms.out y h
          · rw [List.mem_singleton] at h; subst h; exact Hxo.out), Hb5.out⟩
        case measure => simp [intOf]; omega
      · have h8' : (8 : Int) ≤ x.1.kd := by omega
        by_cases h11 : x.1.kd ≤ 11
        · have f1 := frozen_of_row _ _ 1 _ _ hr3
          have hkw : IntKind.i64.wrap (x.1.kd - 8) = x.1.kd - 8 := IntWalk.i64_in _ (by omega)
          go_upto_region 8 with fail
          have HK : Hid (x.1.kd - 8 = adjK x.1.kd) := Lib.hid (by unfold adjK; rw [if_pos (by omega)])
          obtain ⟨w4, hw4⟩ : ∃ w4 : World, w4 = w3.setCell ⟨wo.heap.size, 1, none⟩ (.int .i64 (x.1.kd - 8)) := ⟨_, rfl⟩
          rw [← hw4]
          have Hr4 : Hid (w4.heap[wo.heap.size]? = some (.cells #[.int .i64 x.1.num, .int .i64 (x.1.kd - 8), .int .i64 x.1.fr, .int .i64 x.1.un, .slice x.2.a x.1.rg.length x.2.c] 54 (0, 0))) := Lib.hid (by
            rw [hw4]
            have h := heap_setCell_same w3 wo.heap.size 1 _ _ (Value.int IntKind.i64 (x.1.kd - 8)) Hr3.out
            simpa using h)
          have Hb4 : Hid (Below wo.heap.size wo w4) := Lib.hid (by rw [hw4]; exact Hb3.out.setCell (Nat.le_refl _) _)
          have hs4 : wo.heap.size ≤ w4.heap.size := Hb4.out.size
          clear hw4 hr3 d1 f1 hkw
          have e0 := cell_of_row _ _ 0 _ _ _ Hr4.out
          have e1 := cell_of_row _ _ 1 _ _ _ Hr4.out
          have e2 := cell_of_row _ _ 2 _ _ _ Hr4.out
          have e3 := cell_of_row _ _ 3 _ _ _ Hr4.out
          have e4 := cell_of_row _ _ 4 _ _ _ Hr4.out
          skip
          go_wp2_with (first
            | (at_builtin
               go_loud (refine wpList_append_any _ rfl (.tmp 50) (.tmp 52) _ rfl w2.heap.size 54 i0 _ 5 56 Tryz.underlying51 hi hz0 hz1 hz2 rfl (by omega) _ m.length (ftCells m) rfl ((ownsRow_below Hown.out Hb4.out).alloc _) _ _ 1 1 [.int .i64 x.1.num, .int .i64 (x.1.kd - 8), .int .i64 x.1.fr, .int .i64 x.1.un, .slice x.2.a x.1.rg.length x.2.c] rfl ⟨rfl, fun _ => ⟨_, rfl, Nat.lt_succ_self _, fun j u hu => (by exact news_any _ _ _ j u hu)⟩⟩ (by simp [Value.oneCell']) (by have := Hmk.out; simp only [maxLen]; omega) (by have := Hmk.out; omega) (by simp; omega) ?_)
               intro v5 w5 hown5 hg5 hat5
               have Hown5 : Hid (w5.ownsRow w2.heap.size 54 5 v5 (m.length + 1) (ftCells (m ++ [((Ft.mk x.1.num (x.1.kd - 8) x.1.fr x.1.un x.1.rg, x.2) : Ft × LV)]))) := Lib.hid (by rw [ftCells_snoc]; exact hown5)
               have Hb5 := Lib.hid (((Hbw.out.trans (Hb4.out.mono hsw)).alloc (by omega) (.cells #[.int .i64 x.1.num, .int .i64 (x.1.kd - 8), .int .i64 x.1.fr, .int .i64 x.1.un, .slice x.2.a x.1.rg.length x.2.c] 54)).grown hg5 (by simp; omega) (own_base Hown.out))
               clear hown5 hg5 hat5)
            | fail)
          go_roundw
          case rel => exact ⟨k + 1, m ++ [((Ft.mk x.1.num (x.1.kd - 8) x.1.fr x.1.un x.1.rg, x.2) : Ft × LV)], by omega, by go_num, by rw [List.length_append, Hmk.out]; rfl, Hstep.out _ HK.out, by rw [List.length_append]; exact Hown5.out, fun y hy => (by
            rcases List.mem_append.1 hy with h | h
            · exact Hms.out y h
            · rw [List.mem_singleton] at h; subst h; exact Hxo.out), Hb5.out⟩
          case measure => simp [intOf]; omega
        · have h11' : ¬ x.1.kd ≤ 11 := h11
          go_upto_region 8 with fail
          have HK : Hid (x.1.kd = adjK x.1.kd) := Lib.hid (by unfold adjK; rw [if_neg (by omega)])
          have e0 := cell_of_row _ _ 0 _ _ _ Hr3.out
          have e1 := cell_of_row _ _ 1 _ _ _ Hr3.out
          have e2 := cell_of_row _ _ 2 _ _ _ Hr3.out
          have e3 := cell_of_row _ _ 3 _ _ _ Hr3.out
          have e4 := cell_of_row _ _ 4 _ _ _ Hr3.out
          clear d1 hr3
          go_wp2_with (first
            | (at_builtin
               go_loud (refine wpList_append_any _ rfl (.tmp 50) (.tmp 52) _ rfl w2.heap.size 54 i0 _ 5 56 Tryz.underlying51 hi hz0 hz1 hz2 rfl (by omega) _ m.length (ftCells m) rfl ((ownsRow_below Hown.out Hb3.out).alloc _) _ _ 1 1 [.int .i64 x.1.num, .int .i64 x.1.kd, .int .i64 x.1.fr, .int .i64 x.1.un, .slice x.2.a x.1.rg.length x.2.c] rfl ⟨rfl, fun _ => ⟨_, rfl, Nat.lt_succ_self _, fun j u hu => (by exact news_any _ _ _ j u hu)⟩⟩ (by simp [Value.oneCell']) (by have := Hmk.out; simp only [maxLen]; omega) (by have := Hmk.out; omega) (by simp; omega) ?_)
               intro v5 w5 hown5 hg5 hat5
               have Hown5 : Hid (w5.ownsRow w2.heap.size 54 5 v5 (m.length + 1) (ftCells (m ++ [((Ft.mk x.1.num x.1.kd x.1.fr x.1.un x.1.rg, x.2) : Ft × LV)]))) := Lib.hid (by rw [ftCells_snoc]; exact hown5)
               have Hb5 := Lib.hid (((Hbw.out.trans (Hb3.out.mono hsw)).alloc (by omega) (.cells #[.int .i64 x.1.num, .int .i64 x.1.kd, .int .i64 x.1.fr, .int .i64 x.1.un, .slice x.2.a x.1.rg.length x.2.c] 54)).grown hg5 (by simp; omega) (own_base Hown.out))
               clear hown5 hg5 hat5)
            | fail)
          go_roundw
          case rel => exact ⟨k + 1, m ++ [((Ft.mk x.1.num x.1.kd x.1.fr x.1.un x.1.rg, x.2) : Ft × LV)], by omega, by go_num, by rw [List.length_append, Hmk.out]; rfl, Hstep.out _ HK.out, by rw [List.length_append]; exact Hown5.out, fun y hy => (by
            rcases List.mem_append.1 hy with h | h
            · exact Hms.out y h
            · rw [List.mem_singleton] at h; subst h; exact Hxo.out), Hb5.out⟩
          case measure => simp [intOf]; omega
    · have hkn' : ¬ (k : Int) < (nl : Int) := by omega
      have Hfmz : Hid (fts m = (fts l).map adjF) := Lib.hid (by rw [Hfm.out, List.take_of_length_le (by rw [fts_len, Hnl.out]; omega)])
      obtain ⟨A3, c3, rfl, _, _, _⟩ := own_slice Hown.out
      obtain ⟨M, hM⟩ : ∃ M, M = (fts l).map adjF := ⟨_, rfl⟩
      rw [← hM] at Hfmz Hz
      have HSm : Hid (SlFt wo A3 m.length c3 m) := Lib.hid (SlFt.ofRow Hown.out (fun x hx => (SlR.ofR (Hms.out x hx)).below Hbw.out))
      obtain ⟨nm, hnm⟩ : ∃ nm, m.length = nm := ⟨_, rfl⟩
      have Hnm := Lib.hid hnm
      have hnm4 : nm ≤ 4 := by have := Hmk.out; omega
      rw [hnm] at HSm ⊢
      clear hM hnm
      have hdt := Hd.out
      go_upto_region 14 with (first
        | (go_at_call 19
           refine (on_any A3 nm c3 m d _ HSm.out (by rw [Hfmz.out]; exact Hz.out.ly) (by omega)).mono ?_
           rintro e w4 ⟨on, v4, rfl, hown4, hon, hb4⟩
           rw [Hfmz.out] at hon
           obtain ⟨A4, c4, rfl, _, _, _⟩ := own_slice hown4.o
           have Hown4 := Lib.hid hown4
           have HS4 := Lib.hid hown4.sl
           have Hon := Lib.hid hon
           have Hb4 := Lib.hid hb4
           have hs4 : wo.heap.size ≤ w4.heap.size := hb4.size
           obtain ⟨no, hno⟩ : ∃ no, on.length = no := ⟨_, rfl⟩
           have Hno := Lib.hid hno
           have hno4 : no ≤ 4 := by have h1 := congrArg List.length hon; rw [fts_len] at h1; have h2 := onP_len M d; have h3 := Hz.out.len; omega
           rw [hno] at HS4 ⊢
           clear hown4 hon hb4 hno)
        | fail)
      clear hdt
      go_loopw [12, 14, 66] (fun lv _ iv wr => ∃ (k : Nat) (R : RL), k ≤ no ∧ iv = .int .i64 (k : Int) ∧ R.length = k ∧ rgs R = ((fts on).take k).map Ft.rg ∧ wr.ownsRow w4.heap.size 33 1 lv R.length (rgCells R) ∧ (∀ x ∈ R, SlR w4 x.2.a x.1.length x.2.c x.1) ∧ Below w4.heap.size w4 wr) (fun _ _ iv _ => no - (intOf iv).toNat)
      case atStart => exact ⟨0, [], Nat.zero_le _, rfl, rfl, by simp [rgs], World.ownsRow_nil _ _ _ _, fun x hx => (by cases hx), Below.refl _ _⟩
      case round =>
        obtain ⟨k, R, hk, rfl, hRk, hfR, hownR, hRs, hbR⟩ := hrel
        obtain ⟨wq, rfl⟩ : ∃ wq : World, wq = wr := ⟨_, rfl⟩
        have HfR := Lib.hid hfR
        have HownR := Lib.hid hownR
        have HRs := Lib.hid hRs
        have HbR := Lib.hid hbR
        have HRk := Lib.hid hRk
        have hsR := hbR.size
        clear hfR hownR hRs hbR hRk
        by_cases hkn : k < no
        · have hkn' : (k : Int) < (no : Int) := by omega
          have hkl : k < on.length := by rw [Hno.out]; exact hkn
          obtain ⟨b, off, rfl, hbl, c0, c1', c2, c3', c4', hS⟩ := (HS4.out.below HbR.out).at k hkl
          have hS0 := HS4.out.fits on[k] (List.getElem_mem hkl)
          have Hstep : Hid (rgs (R ++ [(on[k].1.rg, on[k].2)]) = ((fts on).take (k + 1)).map Ft.rg) := Lib.hid (by
            have h := List.take_succ_eq_append_getElem (l := fts on) (i := k) (by rw [fts_len]; exact hkl)
            rw [h, List.map_append, ← HfR.out, fts_get on k hkl]
            simp [rgs])
          obtain ⟨x, hx⟩ : ∃ x, x = on[k] := ⟨_, rfl⟩
          rw [← hx] at c0 c1' c2 c3' c4' hS hS0 Hstep
          have HS0 := Lib.hid hS0
          clear hS hS0 hx
          go_upto_region 16 with fail
          obtain ⟨w5, hw5⟩ : ∃ w5 : World, w5 = wq.alloc (.cells #[.int .i64 x.1.num, .int .i64 x.1.kd, .int .i64 x.1.fr, .int .i64 x.1.un, .slice x.2.a x.1.rg.length x.2.c] 54) := ⟨_, rfl⟩
          rw [← hw5]
          have hr5 : w5.heap[wq.heap.size]? = some (.cells #[.int .i64 x.1.num, .int .i64 x.1.kd, .int .i64 x.1.fr, .int .i64 x.1.un, .slice x.2.a x.1.rg.length x.2.c] 54 (0, 0)) := by rw [hw5]; exact heap_alloc_new wq _
          have Hb5 : Hid (Below wq.heap.size wq w5) := Lib.hid (by rw [hw5]; exact (by repeat' (first | with_reducible exact Below.refl _ _ | with_reducible refine below_drewN ?_ _ | with_reducible refine Below.drew ?_ | with_reducible refine Below.alloc ?_ ?_ _ | with_reducible refine Below.setCell ?_ ?_ _ | with_reducible refine Below.trans ?_ (Below.mono (by with_reducible assumption) ?_) | (simp; done) | (simp; omega) | omega)))
          have hs5 : wq.heap.size < w5.heap.size := by rw [hw5]; simp
          have e4 := cell_of_row _ _ 4 _ _ _ hr5
          clear hw5 hr5 c0 c1' c2 c3' c4'
          go_wp2_with (first
            | (at_builtin
               refine wpList_append_any _ rfl (.tmp 70) (.tmp 73) _ rfl w4.heap.size 33 i1 _ 1 24 Tryz.underlying26 hj hj0 hj1 hj2 rfl (by omega) _ R.length (rgCells R) rfl ((ownsRow_below HownR.out Hb5.out).alloc _) _ _ 1 1 [.slice x.2.a x.1.rg.length x.2.c] rfl ⟨rfl, fun _ => ⟨_, rfl, Nat.lt_succ_self _, fun j u hu => (by exact news_any _ _ _ j u hu)⟩⟩ (by simp [Value.oneCell']) (by have := HRk.out; simp only [maxLen]; omega) (by have := HRk.out; omega) (by simp; omega) ?_
               intro v6 w6 hown6 hg6 hat6
               have Hown6 : Hid (w6.ownsRow w4.heap.size 33 1 v6 (R.length + 1) (rgCells (R ++ [(x.1.rg, x.2)]))) := Lib.hid (by rw [rgCells_snoc9]; exact hown6)
               have Hb6 := Lib.hid (((HbR.out.trans (Hb5.out.mono hsR)).alloc (by omega) (.cells #[.slice x.2.a x.1.rg.length x.2.c] 33)).grown hg6 (by simp; omega) (own_base HownR.out))
               clear hown6 hg6 hat6)
            | fail)
          go_roundw
          case rel => exact ⟨k + 1, R ++ [(x.1.rg, x.2)], by omega, by go_num, by rw [List.length_append, HRk.out]; rfl, Hstep.out, by rw [List.length_append]; exact Hown6.out, fun y hy => (by
            rcases List.mem_append.1 hy with h | h
            · exact HRs.out y h
            · rw [List.mem_singleton] at h; subst h; exact HS0.out), Hb6.out⟩
          case measure => simp [intOf]; omega
        · have hkn' : ¬ (k : Int) < (no : Int) := by omega
          obtain ⟨F, hF, hFok⟩ := on_faces Hz.out d
          have HfRz : Hid (rgs R = (onP M d).map Ft.rg) := Lib.hid (by rw [HfR.out, List.take_of_length_le (by rw [fts_len, Hno.out]; omega), Hon.out])
          rw [← HfRz.out] at hF
          have hfl : (rgs R).flatten.length ≤ 45 := by
            rw [HfRz.out]
            have h1 := flat_len9 (onP M d) 6 (fun f hf => (Hz.out.reg f (onP_mem hf)).len)
            have h2 := onP_len M d
            have h3 := Hz.out.len
            have h4 : 6 * (onP M d).length ≤ 6 * 4 := Nat.mul_le_mul_left _ (by omega)
            omega
          obtain ⟨A5, c5, rfl, _, _, _⟩ := own_slice HownR.out
          have HFc := Lib.hid (faces_any A5 R.length c5 R wq (SlG.ofRow HownR.out (fun x hx => (HRs.out x hx).below HbR.out)) hfl)
          rw [hF] at HFc
          have HFok := Lib.hid hFok
          have Hbq : Hid (Below w2.heap.size w2 wq) := Lib.hid (Hbw.out.trans ((Hb4.out.trans (HbR.out.mono hs4)).mono hsw))
          have Htq : Hid (TapeAt wq g r2) := Lib.hid (Ht2.out.below Hbq.out Ht2.out.lt)
          have hgq : g < w1.heap.size := hg1
          obtain ⟨nR, hnR⟩ : ∃ nR, R.length = nR := ⟨_, rfl⟩
          rw [hnR] at HFc ⊢
          clear hF hFok hfl hnR HRs HownR HfR HRk
          have hsq : w2.heap.size ≤ wq.heap.size := Hbq.out.size
          have hs4q : wo.heap.size ≤ wq.heap.size := by omega
          go_upto_region 20 with (first
            | (go_at_call 20
               refine HFc.out.mono ?_
               rintro e w6 ⟨fl, v6, rfl, hown6, hfc, hb6⟩
               dsimp only at hfc
               obtain ⟨A6, c6, rfl, _, _, _⟩ := own_slice hown6.o
               have Hown6 := Lib.hid hown6
               have Hfc := Lib.hid hfc
               have Hb6 := Lib.hid (Hbq.out.trans (hb6.mono hsq))
               have Hb4w6 : Hid (Below w4.heap.size w4 w6) := Lib.hid (HbR.out.trans (hb6.mono hsR))
               have Hb46 : Hid (Below wo.heap.size wo w6) := Lib.hid (Hb4.out.trans (Hb4w6.out.mono hs4))
               have Ht6 := Lib.hid (Htq.out.below hb6 Htq.out.lt)
               have hs6 : wq.heap.size ≤ w6.heap.size := hb6.size
               obtain ⟨nF, hnF⟩ : ∃ nF, fl.length = nF := ⟨_, rfl⟩
               have HnF := Lib.hid hnF
               rw [hnF]
               clear hown6 hfc hb6 hnF)
            | (go_at_call 21
               refine (region_any g r2 9 3 _ Ht6.out (by omega) (by omega)).mono ?_
               rintro e w7 ⟨v7, rfl, hown7, ht7, hg7⟩
               have hra := mkReg_reg r2 9 3 (by omega) (by omega) (by omega) (by omega)
               generalize mkReg r2 9 3 = rr at hown7 ht7 hra
               obtain ⟨a, r7⟩ := rr
               dsimp only at hown7 ht7 hra
               obtain ⟨A7, c7, rfl, _, _, _⟩ := own_slice hown7
               have Hra : Hid (Reg 9 15 a) := Lib.hid hra
               have HSa : Hid (SlR w7 A7 a.length c7 a) := Lib.hid (SlR.ofR hown7)
               have Hg7 := Lib.hid hg7
               have hs7 : w6.heap.size ≤ w7.heap.size := hg7.size
               -- the layer, what is there, the faces
               have HSm7 : Hid (SlFt w7 A3 nm c3 m) := Lib.hid (by
                 have h := ownsRow_only (ownsRow_below Hown.out Hb46.out) hg7 (by omega)
                 rw [Hnm.out] at h
                 have h2 := h
                 rw [← Hnm.out] at h2 ⊢
                 exact SlFt.ofRow h2 (fun x hx => SlR.ofR (ownsRow_only (ownsRow_below (Hms.out x hx) Hb6.out) hg7 hgq)))
               have HSo7 : Hid (SlFt w7 A4 no c4 on) := Lib.hid (by
                 have h := ((Hown4.out.below Hb4w6.out).only hg7 (by omega)).sl
                 rw [Hno.out] at h
                 exact h)
               have HSF7 : Hid (SlF w7 A6 nF c6 fl) := Lib.hid (by
                 have h := (Hown6.out.only hg7 (by omega)).slf
                 rw [HnF.out] at h
                 exact h)
               obtain ⟨na, hna⟩ : ∃ na, a.length = na := ⟨_, rfl⟩
               rw [hna] at HSa ⊢
               clear hown7 ht7 hg7 hra hna)
            | fail)
          have HEl := Lib.hid (fun W (h1 : SlFt W A3 nm c3 m) (h2 : SlR W A7 na c7 a) => eligible_any A3 nm c3 m d A7 na c7 a 15 W h1 (by rw [Hfmz.out]; exact Hz.out) (by omega) h2 Hra.out (by omega))
          rw [Hfmz.out] at HEl
          obtain ⟨ON, hON⟩ : ∃ ON, ON = onP M d := ⟨_, rfl⟩
          have HONi : Hid (∀ f ∈ ON, InS 9 f.rg) := Lib.hid (fun f hf => by rw [hON] at hf; exact (Hz.out.reg f (onP_mem hf)).ins)
          have HONl : Hid (ON.length = no) := Lib.hid (by rw [hON, ← Hon.out, fts_len, Hno.out])
          have Hon9 : Hid (fts on = ON) := Lib.hid (Hon.out.trans hON.symm)
          rw [← hON] at HEl HFok
          obtain ⟨fine, hfine⟩ : ∃ f, f = fineP a ON := ⟨_, rfl⟩
          rw [← hfine] at HEl
          have Hfine := Lib.hid hfine
          have HZo := Lib.hid (fun W (h1 : SlFt W A3 nm c3 m) (x y : Int) => zones_any A3 nm c3 m x y d W h1 (by rw [Hfmz.out]; exact Hz.out.ly) (by omega))
          rw [Hfmz.out, ← hON] at HZo
          have HbW2 : Below w.heap.size w w2 := below_only Hb1.out Hg2.out hwg hs1
          have HbW7 : Hid (Below w.heap.size w w7) := Lib.hid (below_only (HbW2.trans (Hb6.out.mono HbW2.size)) Hg7.out hwg (Nat.le_trans HbW2.size (Nat.le_trans hsq hs6)))
          clear hON hfine HbW2 Hg7 Hb6 Hg2 Hb1 Hon Hbw Hbq Hb46 Hb4w6 HbR Hb4 Htq Ht6 Ht2 Ht1 Hown Hown4 Hown6 Hms HS2 HS4 HL2 HFc
          obtain ⟨w8, hw8⟩ : ∃ w8 : World, w8 = w7.alloc (.cells #[.slice A7 na c7] 33) := ⟨_, rfl⟩
          rw [← hw8]
          obtain ⟨XA, hXA⟩ : ∃ XA, XA = w7.heap.size := ⟨_, rfl⟩
          have Hx8 : Hid (w8.heap[XA]? = some (.cells #[.slice A7 na c7] 33 (0, 0))) := Lib.hid (by rw [hw8, hXA]; exact heap_alloc_new w7 _)
          have Hb78 : Hid (Below w7.heap.size w7 w8) := Lib.hid (by rw [hw8]; exact (by repeat' (first | with_reducible exact Below.refl _ _ | with_reducible refine below_drewN ?_ _ | with_reducible refine Below.drew ?_ | with_reducible refine Below.alloc ?_ ?_ _ | with_reducible refine Below.setCell ?_ ?_ _ | with_reducible refine Below.trans ?_ (Below.mono (by with_reducible assumption) ?_) | (simp; done) | (simp; omega) | omega)))
          have hs8 : XA < w8.heap.size := by rw [hw8, hXA]; simp
          have HbW8 := Lib.hid (HbW7.out.trans (Hb78.out.mono HbW7.out.size))
          have HSm8 := Lib.hid (HSm7.out.below Hb78.out)
          have HSo8 := Lib.hid (HSo7.out.below Hb78.out)
          have HSF8 := Lib.hid (HSF7.out.below Hb78.out)
          have HSa8 := Lib.hid (HSa.out.below Hb78.out)
          have x8 := cell_of_row _ _ 0 _ _ _ Hx8.out
          rw [← hXA]
          clear hw8 hXA Hb78 HSm7 HSo7 HSF7 HSa HbW7
          go_upto_region 21 with (first
            | (go_at_call 22
               refine (HEl.out _ HSm8.out HSa8.out).mono ?_
               rintro e w9 ⟨v9, rfl, hown9, hb9⟩
               dsimp only at hown9
               obtain ⟨A9, c9, rfl, _, _, _⟩ := own_slice hown9
               have HSf9 := Lib.hid (SlR.ofR hown9)
               have HSm9 := Lib.hid (HSm8.out.below hb9)
               have HSo9 := Lib.hid (HSo8.out.below hb9)
               have HSF9 := Lib.hid (HSF8.out.below hb9)
               have HSa9 := Lib.hid (HSa8.out.below hb9)
               have Hx9 := Lib.hid ((hb9.block XA hs8).trans Hx8.out)
               have hs9 : XA < w9.heap.size := Nat.lt_of_lt_of_le hs8 hb9.size
               have HbW9 := Lib.hid (HbW8.out.trans (hb9.mono HbW8.out.size))
               obtain ⟨nf, hnf⟩ : ∃ nf, fine.length = nf := ⟨_, rfl⟩
               rw [hnf] at HSf9 ⊢
               clear hown9 hb9 x8 hnf)
            | fail)
          obtain ⟨wz9, hwz9⟩ : ∃ wz9 : World, wz9 = w9.alloc (.cells #[.slice A9 nf c9] 33) := ⟨_, rfl⟩
          rw [← hwz9]
          obtain ⟨XF, hXF⟩ : ∃ XF, XF = w9.heap.size := ⟨_, rfl⟩
          have HxF : Hid (wz9.heap[XF]? = some (.cells #[.slice A9 nf c9] 33 (0, 0))) := Lib.hid (by rw [hwz9, hXF]; exact heap_alloc_new w9 _)
          have Hb9z : Hid (Below w9.heap.size w9 wz9) := Lib.hid (by rw [hwz9]; exact (by repeat' (first | with_reducible exact Below.refl _ _ | with_reducible refine below_drewN ?_ _ | with_reducible refine Below.drew ?_ | with_reducible refine Below.alloc ?_ ?_ _ | with_reducible refine Below.setCell ?_ ?_ _ | with_reducible refine Below.trans ?_ (Below.mono (by with_reducible assumption) ?_) | (simp; done) | (simp; omega) | omega)))
          have hsF : XF < wz9.heap.size := by rw [hwz9, hXF]; simp
          have HbZ := Lib.hid (HbW9.out.trans (Hb9z.out.mono HbW9.out.size))
          have HSm := Lib.hid (HSm9.out.below Hb9z.out)
          have HSo := Lib.hid (HSo9.out.below Hb9z.out)
          have HSF := Lib.hid (HSF9.out.below Hb9z.out)
          have HSa := Lib.hid (HSa9.out.below Hb9z.out)
          have HSf := Lib.hid (HSf9.out.below Hb9z.out)
          have HxA := Lib.hid ((Hb9z.out.block XA hs9).trans Hx9.out)
          have hsA : XA < wz9.heap.size := Nat.lt_of_lt_of_le hs9 Hb9z.out.size
          rw [← hXF]
          clear hwz9 hXF Hb9z HSm8 HSo8 HSF8 HSa8 HSm9 HSo9 HSF9 HSa9 HSf9 HbW8 HbW9 Hx8 Hx9 HEl
          have hnFm : nF ≤ 9223372036854775807 := by have h1 := HSF.out.cap; have h2 := HSF.out.top; unfold maxLen at h2; omega
          go_upto_region 24 with fail
          go_loopw [21, 22, 23, 24, 25, 26, 27, 28, 102] (fun _ _ _ _ _ _ _ _ iv wr => ∃ k : Nat, k ≤ nF ∧ iv = .int .i64 (k : Int) ∧ Below wz9.heap.size wz9 wr) (fun _ _ _ _ _ _ _ _ iv _ => nF - (intOf iv).toNat)
          case atStart => exact ⟨0, Nat.zero_le _, rfl, Below.refl _ _⟩
          case round =>
            obtain ⟨k, hk, rfl, hbf⟩ := hrel
            obtain ⟨wf, rfl⟩ : ∃ wf : World, wf = wr := ⟨_, rfl⟩
            have Hbf := Lib.hid hbf
            have hsf := hbf.size
            clear hbf
            by_cases hkn : k < nF
            · have hkn' : (k : Int) < (nF : Int) := by omega
              have hkl : k < fl.length := by rw [HnF.out]; exact hkn
              obtain ⟨b, off, rfl, hbl, c0, c1', hS⟩ := (HSF.out.below Hbf.out).at k hkl
              have hfm : fl[k].1 ∈ F := by rw [← Hfc.out]; exact List.mem_map_of_mem (List.getElem_mem hkl)
              obtain ⟨⟨q, t, hq, hzk⟩, hcb, hh1, hh2⟩ := zones_law HONi.out HFok.out Hra.out (by omega) fl[k].1 hfm
              have hps := HFok.out.pos _ hfm
              obtain ⟨x, hx⟩ : ∃ x, x = fl[k] := ⟨_, rfl⟩
              rw [← hx] at c0 c1' hS hq hzk hcb hh1 hh2 hps
              obtain ⟨⟨se, rx⟩, ⟨lva, lvc⟩⟩ := x
              dsimp only at c0 c1' hS hq hzk hcb hh1 hh2 hps
              obtain ⟨S, rfl⟩ : ∃ S : Nat, se = (S : Int) := ⟨se.toNat, by omega⟩
              have hS16 : S < 16 := by
                have h1 : (2 : Int) ^ (ON.map Ft.rg).length ≤ 2 ^ 4 := by
                  have h2 : (2 : Nat) ^ (ON.map Ft.rg).length ≤ 2 ^ 4 := Nat.pow_le_pow_right (by omega) (by rw [List.length_map, HONl.out]; exact hno4)
                  exact_mod_cast h2
                have h3 := hps.2
                omega
              rw [HONl.out, ← Hfine.out] at *
              have Hzk := Lib.hid hzk
              have Hcb := Lib.hid hcb
              have Hh1 := Lib.hid hh1
              have Hh2 := Lib.hid hh2
              have HSx := Lib.hid hS
              have hnx0 : ¬ rx.length = 0 := by rw [hq]; simp
              have Hq := Lib.hid hq
              obtain ⟨nx, hnx⟩ : ∃ nx, rx.length = nx := ⟨_, rfl⟩
              have Hnx := Lib.hid hnx
              rw [hnx] at c1' HSx hnx0
              clear hzk hcb hh1 hh2 hS hq hnx hfm hps hx
              go_upto_region 29 with fail
              obtain ⟨wb, hwb⟩ : ∃ wb : World, wb = wf.alloc (.cells #[.int .i64 (S : Int), .slice lva nx lvc] 63) := ⟨_, rfl⟩
              rw [← hwb]
              obtain ⟨XB, hXB⟩ : ∃ XB, XB = wf.heap.size := ⟨_, rfl⟩
              have HxB : Hid (wb.heap[XB]? = some (.cells #[.int .i64 (S : Int), .slice lva nx lvc] 63 (0, 0))) := Lib.hid (by rw [hwb, hXB]; exact heap_alloc_new wf _)
              have Hbfb : Hid (Below wf.heap.size wf wb) := Lib.hid (by rw [hwb]; exact (by repeat' (first | with_reducible exact Below.refl _ _ | with_reducible refine below_drewN ?_ _ | with_reducible refine Below.drew ?_ | with_reducible refine Below.alloc ?_ ?_ _ | with_reducible refine Below.setCell ?_ ?_ _ | with_reducible refine Below.trans ?_ (Below.mono (by with_reducible assumption) ?_) | (simp; done) | (simp; omega) | omega)))
              have hsB : XB < wb.heap.size := by rw [hwb, hXB]; simp
              have hXBf : wf.heap.size ≤ XB := by omega
              rw [← hXB]
              have HSxb := Lib.hid (HSx.out.below Hbfb.out)
              have Hbb : Hid (Below wz9.heap.size wz9 wb) := Lib.hid (Hbf.out.trans (Hbfb.out.mono hsf))
              have hsb : wz9.heap.size ≤ wb.heap.size := Hbb.out.size
              clear hwb hXB HSx c0 c1'
              go_loopw [22, 23, 24, 108] (fun hv kv _ iv wr => ∃ (i : Nat) (Ak : Option Addr) (ck : Nat), i ≤ no ∧ iv = .int .i64 (i : Int) ∧ hv = .bool (hardTo ON S i) ∧ kv = .slice Ak (kindsTo ON S i).length ck ∧ SlI wr Ak (kindsTo ON S i).length ck (kindsTo ON S i) ∧ ((kindsTo ON S i).length = 0 → Ak = none ∧ ck = 0) ∧ Below wb.heap.size wb wr) (fun _ _ _ iv _ => no - (intOf iv).toNat)
              case atStart => exact ⟨0, none, 0, Nat.zero_le _, rfl, rfl, rfl, SlI.nil _, fun _ => ⟨rfl, rfl⟩, Below.refl _ _⟩
              case round =>
                obtain ⟨i, Ak, ck, hi', rfl, rfl, rfl, hsi, hnil, hbi⟩ := hrel
                obtain ⟨wi, rfl⟩ : ∃ wi : World, wi = wr := ⟨_, rfl⟩
                have Hsi := Lib.hid hsi
                have Hnil := Lib.hid hnil
                have Hbi := Lib.hid hbi
                have hsbi := hbi.size
                have hkl4 := kindsTo_len ON S i
                clear hsi hnil hbi
                have Hbzi : Hid (Below wz9.heap.size wz9 wi) := Lib.hid (Hbb.out.trans (Hbi.out.mono hsb))
                have HxBi := Lib.hid ((Hbi.out.block XB hsB).trans HxB.out)
                by_cases hin : i < no
                · have hin' : (i : Int) < (no : Int) := by omega
                  have hio : i < on.length := by rw [Hno.out]; exact hin
                  obtain ⟨b2, off2, rfl, hbl2, _, k1, _, _, _, _⟩ := (HSo.out.below Hbzi.out).at i hio
                  have hkd : (ON.map Ft.kd).getD i 0 = on[i].1.kd := by
                    rw [← Hon9.out]
                    simp [fts, List.getD_eq_getElem?_getD, List.getElem?_eq_getElem hio]
                  have Hks := Lib.hid (kindsTo_succ ON S i)
                  have Hhs := Lib.hid (hardTo_succ ON S i)
                  rw [hkd] at Hks Hhs
                  have hand := and_bit S i hS16
                  obtain ⟨Q, hQ⟩ : ∃ Q : Nat, S / 2 ^ i = Q := ⟨_, rfl⟩
                  have hshr := shr_nat S i
                  rw [hQ] at hand hshr
                  clear hQ hkd
                  generalize on[i].1.kd = kd at *
                  have x0 := cell_of_row _ _ 0 _ _ _ HxBi.out
                  generalize kindsTo ON S i = KS at *
                  generalize hardTo ON S i = HB at *
                  cases hbit : bitAt S i with
                  | false =>
                    rw [hbit, if_neg (by simp)] at hand
                    rw [hbit] at Hks Hhs
                    clear hbit
                    go_wp2
                    go_roundw
                    case rel => exact ⟨i + 1, Ak, ck, by omega, by go_num, by rw [Hhs.out]; simp, by rw [Hks.out]; simp, by rw [Hks.out]; simpa using Hsi.out, by rw [Hks.out]; simpa using Hnil.out, Hbi.out⟩
                    case measure => simp [intOf]; omega
                  | true =>
                    rw [hbit, if_pos rfl] at hand
                    rw [hbit] at Hks Hhs
                    clear hbit
                    go_upto_region 33 with (first
                      | (go_at_call 23
                         refine (put_any Ak KS.length ck KS kd _ Hsi.out (by omega) Hnil.out).mono ?_
                         rintro e wp ⟨Ap, np, cp, rfl, hsp, hbp⟩
                         obtain rfl : np = (putL KS kd).length := hsp.len.symm
                         have Hsp := Lib.hid hsp
                         have Hbp := Lib.hid (Hbi.out.trans (hbp.mono hsbi))
                         have k2 := (hbp.cell (p := ⟨b2, off2 + i * 5 + 1, none⟩) hbl2).trans k1
                         clear hsp hbp x0 k1)
                      | fail)
                    have hpn : (putL KS kd).length = 0 → Ap = none ∧ cp = 0 := fun h => absurd (List.length_eq_zero_iff.1 h) (putL_ne KS kd)
                    have Hpn := Lib.hid hpn
                    clear hpn
                    cases HB with
                    | true =>
                      go_wp2
                      go_roundw
                      case rel => exact ⟨i + 1, Ap, cp, by omega, by go_num, by rw [Hhs.out]; simp, by rw [Hks.out]; rfl, by rw [Hks.out]; exact Hsp.out, by rw [Hks.out]; exact Hpn.out, Hbp.out⟩
                      case measure => simp [intOf]; omega
                    | false =>
                      by_cases hk8 : kd < 8
                      · have hk8d : decide (kd < 8) = true := decide_eq_true hk8
                        go_wp2
                        go_roundw
                        case rel => exact ⟨i + 1, Ap, cp, by omega, by go_num, by rw [Hhs.out, hk8d]; rfl, by rw [Hks.out]; rfl, by rw [Hks.out]; exact Hsp.out, by rw [Hks.out]; exact Hpn.out, Hbp.out⟩
                        case measure => simp [intOf]; omega
                      · have hk8d : decide (kd < 8) = false := decide_eq_false hk8
                        go_wp2
                        go_roundw
                        case rel => exact ⟨i + 1, Ap, cp, by omega, by go_num, by rw [Hhs.out, hk8d]; rfl, by rw [Hks.out]; rfl, by rw [Hks.out]; exact Hsp.out, by rw [Hks.out]; exact Hpn.out, Hbp.out⟩
                        case measure => simp [intOf]; omega
                · have hin' : ¬ (i : Int) < (no : Int) := by omega
                  have hie : i = no := by omega
                  subst hie
                  have hrx := Hq.out
                  subst hrx
                  generalize kindsTo ON (S : Int) i = K at *
                  generalize hardTo ON (S : Int) i = HB at *
                  have HSxi := Lib.hid (HSxb.out.below Hbi.out)
                  obtain ⟨b3, off3, rfl, hb3, q0, q1, _, _⟩ := HSxi.out.at 0 (by simp)
                  rw [Nat.zero_mul, Nat.add_zero] at q0 q1
                  rw [List.getElem_cons_zero] at q0 q1
                  have HSmi := Lib.hid (HSm.out.below Hbzi.out)
                  have HSai := Lib.hid (HSa.out.below Hbzi.out)
                  have HSfi := Lib.hid (HSf.out.below Hbzi.out)
                  have HxAi := Lib.hid ((Hbzi.out.block XA hsA).trans HxA.out)
                  have HxFi := Lib.hid ((Hbzi.out.block XF hsF).trans HxF.out)
                  have hzi : wz9.heap.size ≤ wi.heap.size := Hbzi.out.size
                  have hnx1 : ¬ (nx : Int) = 0 := by omega
                  have hnx2 : (0 : Int) < (nx : Int) := by omega
                  have hnx3 : 0 < nx := by omega
                  have HBo := Lib.hid (fun W (h1 : SlR W A7 na c7 a) (h2 : SlR W (some ⟨b3, off3, none⟩) nx lvc (q :: t)) => both_any A7 (some ⟨b3, off3, none⟩) na c7 nx lvc a (q :: t) W h1 h2)
                  rw [Hcb.out] at HBo
                  have x1 : wi.cell? ⟨XB, 1, none⟩ = some (.slice (some ⟨b3, off3, none⟩) nx lvc) := cell_of_row _ _ 1 _ _ _ HxBi.out
                  generalize chooseP andB a (q :: t) = P at *
                  clear hsB Hbfb Hcb
                  have hXBi : XB < wi.heap.size := by
                    rcases Nat.lt_or_ge XB wi.heap.size with h | h
                    · exact h
                    · have := HxBi.out; rw [Array.getElem?_eq_none h] at this; cases this
                  go_upto_region 37 with fail
                  go_region_held3 (fun w' => w'.cell? ⟨XB, 1, none⟩ = some (.slice (some ⟨b3, off3, none⟩) nx lvc) ∧ w'.cell? ⟨b3, off3, none⟩ = some (.int .i64 q.l) ∧ w'.cell? ⟨b3, off3 + 1, none⟩ = some (.int .i64 q.b))
                    (first | go_keep | ((repeat' apply And.intro) <;> go_keep))
                    (first
                      | (go_at_call 24
                         refine (HZo.out _ (HSmi.out.below (by repeat' (first | with_reducible exact Below.refl _ _ | with_reducible refine below_drewN ?_ _ | with_reducible refine Below.drew ?_ | with_reducible refine Below.alloc ?_ ?_ _ | with_reducible refine Below.setCell ?_ ?_ _ | with_reducible refine Below.trans ?_ (Below.mono (by with_reducible assumption) ?_) | (simp; done) | (simp; omega) | omega))) q.l q.b).mono ?_
                         rintro e wy ⟨vz, rfl, hownz, hbz⟩
                         rw [Hzk.out] at hownz
                         obtain ⟨Az, cz, rfl, _, _, _⟩ := own_slice hownz
                         have HSz := Lib.hid (SlI.ofRow hownz)
                         have Hbz : Hid (Below wi.heap.size wi wy) := Lib.hid ((show Below wi.heap.size wi wi.drew from Below.drew (Below.refl _ _)).trans hbz)
                         have y1 : wy.cell? ⟨XB, 1, none⟩ = some (.slice (some ⟨b3, off3, none⟩) nx lvc) := (Hbz.out.cell (p := ⟨XB, 1, none⟩) hXBi).trans x1
                         have y2 := (Hbz.out.cell (p := ⟨b3, off3, none⟩) hb3).trans q0
                         have y3 := (Hbz.out.cell (p := ⟨b3, off3 + 1, none⟩) hb3).trans q1
                         clear hownz hbz)
                      | fail)
                  have Hbzy : Hid (Below wz9.heap.size wz9 wy) := Lib.hid (Hbzi.out.trans (Hbz.out.mono hzi))
                  have hzy : wz9.heap.size ≤ wy.heap.size := Hbzy.out.size
                  have HSay := Lib.hid (HSai.out.below Hbz.out)
                  have HSfy := Lib.hid (HSfi.out.below Hbz.out)
                  have HSxy := Lib.hid (HSxi.out.below Hbz.out)
                  have Hsiy := Lib.hid (Hsi.out.below Hbz.out)
                  have HxFy := Lib.hid ((Hbzy.out.block XF hsF).trans HxF.out)
                  have xa : wy.cell? ⟨XA, 0, none⟩ = some (.slice A7 na c7) := cell_of_row _ _ 0 _ _ _ ((Hbzy.out.block XA hsA).trans HxA.out)
                  clear y2 y3 x1 q0 q1 HSai HSfi HSxi HSxb Hsi Hbz HSmi HxAi HxFi
                  go_upto_region 39 with (first
                    | (go_at_call 25
                       refine (HBo.out _ HSay.out HSxy.out).mono ?_
                       rintro e wv ⟨vv, rfl, hownv, hbv⟩
                       dsimp only at hownv
                       obtain ⟨Av, cv, rfl, _, _, _⟩ := own_slice hownv
                       have HSv := Lib.hid (SlR.ofR hownv)
                       have HSfv := Lib.hid (HSfy.out.below hbv)
                       have HSzv := Lib.hid (HSz.out.below hbv)
                       have Hsiv := Lib.hid (Hsiy.out.below hbv)
                       have HxFv := Lib.hid ((hbv.block XF (by omega)).trans HxFy.out)
                       have Hbzv : Hid (Below wz9.heap.size wz9 wv) := Lib.hid (Hbzy.out.trans (hbv.mono hzy))
                       have hsv : XF < wv.heap.size := Nat.lt_of_lt_of_le hsF Hbzv.out.size
                       obtain ⟨np, hnp⟩ : ∃ np, P.length = np := ⟨_, rfl⟩
                       rw [hnp] at HSv ⊢
                       clear hownv hbv hnp y1 xa)
                    | fail)
                  obtain ⟨wl, hwl⟩ : ∃ wl : World, wl = wv.alloc (.cells #[.slice Av np cv] 33) := ⟨_, rfl⟩
                  rw [← hwl]
                  obtain ⟨XP, hXP⟩ : ∃ XP, XP = wv.heap.size := ⟨_, rfl⟩
                  have HxP : Hid (wl.heap[XP]? = some (.cells #[.slice Av np cv] 33 (0, 0))) := Lib.hid (by rw [hwl, hXP]; exact heap_alloc_new wv _)
                  have Hbvl : Hid (Below wv.heap.size wv wl) := Lib.hid (by rw [hwl]; exact (by repeat' (first | with_reducible exact Below.refl _ _ | with_reducible refine below_drewN ?_ _ | with_reducible refine Below.drew ?_ | with_reducible refine Below.alloc ?_ ?_ _ | with_reducible refine Below.setCell ?_ ?_ _ | with_reducible refine Below.trans ?_ (Below.mono (by with_reducible assumption) ?_) | (simp; done) | (simp; omega) | omega)))
                  have hsP : XP < wl.heap.size := by rw [hwl, hXP]; simp
                  have HSvl := Lib.hid (HSv.out.below Hbvl.out)
                  have HSfl := Lib.hid (HSfv.out.below Hbvl.out)
                  have HSzl := Lib.hid (HSzv.out.below Hbvl.out)
                  have Hsil := Lib.hid (Hsiv.out.below Hbvl.out)
                  have HxFl := Lib.hid ((Hbvl.out.block XF hsv).trans HxFv.out)
                  have Hbzl : Hid (Below wz9.heap.size wz9 wl) := Lib.hid (Hbzv.out.trans (Hbvl.out.mono Hbzv.out.size))
                  have hsl : XF < wl.heap.size := Nat.lt_of_lt_of_le hsv Hbvl.out.size
                  rw [← hXP]
                  clear hwl hXP Hbvl HSv HSfv HSzv Hsiv HxFv Hbzv
                  have hzl : wz9.heap.size ≤ wl.heap.size := Hbzl.out.size
                  cases HB with
                  | true =>
                    have HMe := Lib.hid (fun W (h1 : SlR W Av np cv P) (h2 : SlR W A9 nf c9 fine) => meets_any Av A9 np cv nf c9 P fine W h1 h2)
                    rw [Hh1.out rfl] at HMe
                    go_wp2_with (first
                      | (go_at_call 26
                         refine (ints_any Az Ak K.length cz ck K _ HSzl.out Hsil.out).mono ?_
                         rintro e wn ⟨rfl, hbn⟩
                         have HSvn := Lib.hid (HSvl.out.below hbn)
                         have HSfn := Lib.hid (HSfl.out.below hbn)
                         have xp : wn.cell? ⟨XP, 0, none⟩ = some (.slice Av np cv) := cell_of_row _ _ 0 _ _ _ ((hbn.block XP hsP).trans HxP.out)
                         have xf : wn.cell? ⟨XF, 0, none⟩ = some (.slice A9 nf c9) := cell_of_row _ _ 0 _ _ _ ((hbn.block XF hsl).trans HxFl.out)
                         have Hbzn : Hid (Below wz9.heap.size wz9 wn) := Lib.hid (Hbzl.out.trans (hbn.mono hzl))
                         clear hbn)
                      | (go_at_call 27
                         refine (HMe.out _ HSvn.out HSfn.out).mono ?_
                         rintro e wt ⟨rfl, hbt⟩
                         have Hbzt : Hid (Below wz9.heap.size wz9 wt) := Lib.hid (Hbzn.out.trans (hbt.mono Hbzn.out.size))
                         clear hbt xp xf)
                      | fail)
                    go_roundw
                    case rel => exact ⟨k + 1, by omega, by go_num, Hbzt.out⟩
                    case measure => simp [intOf]; omega
                  | false =>
                    have HWi := Lib.hid (fun W (h1 : SlR W Av np cv P) (h2 : SlR W A9 nf c9 fine) => within_any Av A9 np cv nf c9 P fine W h1 h2)
                    rw [Hh2.out rfl] at HWi
                    go_wp2_with (first
                      | (go_at_call 26
                         refine (ints_any Az Ak K.length cz ck K _ HSzl.out Hsil.out).mono ?_
                         rintro e wn ⟨rfl, hbn⟩
                         have HSvn := Lib.hid (HSvl.out.below hbn)
                         have HSfn := Lib.hid (HSfl.out.below hbn)
                         have xp : wn.cell? ⟨XP, 0, none⟩ = some (.slice Av np cv) := cell_of_row _ _ 0 _ _ _ ((hbn.block XP hsP).trans HxP.out)
                         have xf : wn.cell? ⟨XF, 0, none⟩ = some (.slice A9 nf c9) := cell_of_row _ _ 0 _ _ _ ((hbn.block XF hsl).trans HxFl.out)
                         have Hbzn : Hid (Below wz9.heap.size wz9 wn) := Lib.hid (Hbzl.out.trans (hbn.mono hzl))
                         clear hbn)
                      | (go_at_call 28
                         refine (HWi.out _ HSvn.out HSfn.out).mono ?_
                         rintro e wt ⟨rfl, hbt⟩
                         have Hbzt : Hid (Below wz9.heap.size wz9 wt) := Lib.hid (Hbzn.out.trans (hbt.mono Hbzn.out.size))
                         clear hbt xp xf)
                      | fail)
                    go_roundw
                    case rel => exact ⟨k + 1, by omega, by go_num, Hbzt.out⟩
                    case measure => simp [intOf]; omega
            · have hkn' : ¬ (k : Int) < (nF : Int) := by omega
              go_wp2_with (first
                | (go_at_call 17; refine (awakeT_any _).mono ?_; rintro e wl ⟨rfl, hbl⟩; have Hbl := Lib.hid (Hbf.out.trans (hbl.mono hsf)); clear hbl)
                | fail)
              go_ret
              exact ⟨rfl, HbZ.out.trans (Hbl.out.mono HbZ.out.size)⟩
end Go.Proofs.YtfmkmhhghmdakaaGreatDoor
namespace Go.Proofs.YtfmkmhhghmdakaaGreatDoor
open Go.ChangeShapes Go.WideShapes Go.ChangeAt Go.RowKit
set_option linter.unusedVariables false

theorem open_lies {H : Type} {enc : TypeId × Value → H} {P : Program} {W : World} {r : Reach} {base : Nat} {t e : TypeId} {k : IntKind} {v : Value} {d : DataW H} {p : List MemPlace}
    (ht : P.underlying t = some (.slice e)) (he : P.underlying e = some (.int k)) (hC : P.cellsOf e = 1) (hv : Value.okWide P W r base t v) (h : DataW.Trod enc P W 0 (fun _ => true) true t v d p) :
    ∃ (A : Option Addr) (n c : Nat) (zs : List Int), v = .slice A n c ∧ zs.length = n ∧ (n ≤ c ∧ c ≤ maxLen) ∧ Lies W A n (zs.map (.int k)) ∧ ∀ z ∈ zs, (Lit.int k z).wf = true := by
  obtain ⟨A, n, c, rfl⟩ := okWide_slice ht hv
  obtain ⟨fuel, hf⟩ := h
  rcases open_ints ht he hC hf with ⟨hcs, _⟩ | ⟨x, l, c', zs, hcs, _, hl, hm, hz, _, hcell, hwz⟩
  · simp [Value.cells] at hcs
    obtain ⟨rfl, rfl, rfl⟩ := hcs
    exact ⟨none, 0, 0, [], rfl, rfl, ⟨Nat.le_refl _, Nat.zero_le _⟩, .inl rfl, fun z hz => by cases hz⟩
  · simp [Value.cells] at hcs
    obtain ⟨rfl, rfl, rfl⟩ := hcs
    have hz' : zs.length = c := by simpa using hz
    refine ⟨some x, n, c, zs.take n, rfl, by rw [List.length_take]; omega, ⟨hl, hm⟩, ?_, fun z hz => hwz z (List.mem_of_mem_take hz)⟩
    by_cases h0 : n = 0
    · exact .inl h0
    · obtain ⟨b, off, spot⟩ := x
      have hc0 := hcell 0 (by omega)
      have hspot : spot = none := by simpa [Addr.add] using World.cell?_spot hc0
      subst hspot
      have hb := World.block_lt_of_cell? W _ hc0
      rw [add_none] at hb
      refine .inr ⟨b, off, rfl, hb, fun j u hu => ?_⟩
      have hj : j < n := by
        rcases Nat.lt_or_ge j n with h | h
        · exact h
        · rw [List.getElem?_eq_none (by simp; omega)] at hu; cases hu
      have := hcell j (by omega)
      rw [add_none] at this
      rw [this]
      rw [List.getElem?_map, List.getElem?_take, if_pos hj] at hu
      rw [List.getElem?_eq_getElem (by omega)] at hu
      rw [List.getD_eq_getElem?_getD, List.getElem?_eq_getElem (by omega)]
      simpa using hu
end Go.Proofs.YtfmkmhhghmdakaaGreatDoor
