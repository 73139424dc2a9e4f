import Derived.Laws.CopyRow
import Derived.Laws.AppendOwn
import Derived.Laws.Tables
import Derived.Deep.Upon
import Derived.Test.YtfmkmhhghmdakaaGreatDoorRB
import Derived.Test.YtfmkmhhghmdakaaGreatDoorRN
namespace Go.Proofs.YtfmkmhhghmdakaaGreatDoor
open Go.RowKit Go.Shelf
set_option linter.unusedVariables false
set_option linter.unusedSimpArgs false
set_option maxHeartbeats 64000000
set_option maxRecDepth 100000
theorem cloneR_any (A : Option Addr) (n c : Nat) (l : List R4) (w : World) (hA : SlR w A n c l) (hn : n ≤ 1000000) :
    Calls Tryz.prog 109 #[.slice A n c] w fun e w' => ∃ v, e = .returned v ∧ w'.ownsRow w.heap.size 68 4 v n (rCells l) ∧ Below w.heap.size w w' := by
  obtain ⟨i0, hi, hz0, hz1, hz2⟩ := info_parts Tryz.infoRect
  have hx := hA.len
  have hL := hA.lies
  have HA := Lib.hid (hL.reads (size := 4) (by rw [rCells_len, hx]))
  clear hA
  rcases A with _ | ad
  · have hn0 : n = 0 := hL.resolve_right (by rintro ⟨_, _, h, _⟩; cases h)
    subst hn0
    obtain rfl : l = [] := List.length_eq_zero_iff.1 hx
    clear hx hL HA
    have hnil := fun W : World => Lib.run_eql_slice_nil (P := Tryz.prog) W 31 68 none 0 c 0 0 Tryz.underlying31
    go_enter Tryz.func109, Tryz.ntmps109
    go_wp2
    go_ret
    exact ⟨_, rfl, World.ownsRow_nil _ _ _ _, Below.refl _ _⟩
  · clear hx hL
    have hnil := fun W : World => Lib.run_eql_slice_nil (P := Tryz.prog) W 31 68 (some ad) n c 0 0 Tryz.underlying31
    go_enter Tryz.func109, Tryz.ntmps109
    go_wp2_with (at_builtin
                 refine wpList_append_any _ rfl (.tmp 5) (.tmp 6) _ rfl w.heap.size 68 i0 _ 4 32 Tryz.underlying31 hi hz0 hz1 hz2 rfl (by omega) (.slice (some ⟨w.heap.size, 0, none⟩) 0 0) 0 [] rfl
                   (own_zero w _ _ _ (Nat.le_refl _)) w.heap.size (some ad) n c (rCells l) rfl (HA.out.alloc (Nat.le_refl _) _) (rCells_one l) (by simp only [maxLen]; omega) (by omega) (by simp) ?_
                 intro v1 w1 hown1 hg1 hat1)
    go_ret
    refine ⟨v1, rfl, by simpa using hown1, ?_⟩
    exact ((Below.refl _ _).alloc (Nat.le_refl _) _).grown hg1 (by simp) (by intro k hk; simp [Value.ownBlock] at hk; omega)
def CopPost (w : World) (x : Ft) (e : Ending) (w' : World) : Prop :=
  ∃ v : LV, e = .returned (.agg #[.int .i64 x.num, .int .i64 x.kd, .int .i64 x.fr, .int .i64 x.un, .slice v.a x.rg.length v.c]) ∧ w'.ownsRow w.heap.size 68 4 (.slice v.a x.rg.length v.c) x.rg.length (rCells x.rg) ∧ Below w.heap.size w w'
theorem copied_any9 (x : Ft) (v : LV) (w : World) (hx : SlR w v.a x.rg.length v.c x.rg) (hn : x.rg.length ≤ 1000000) :
    Calls Tryz.prog 176 #[.agg #[.int .i64 x.num, .int .i64 x.kd, .int .i64 x.fr, .int .i64 x.un, .slice v.a x.rg.length v.c]] w (CopPost w x) := by
  obtain ⟨num, kd, fr, un, rg⟩ := x
  dsimp only at hx hn ⊢
  have Hx := Lib.hid hx
  obtain ⟨n, hne⟩ : ∃ n, rg.length = n := ⟨_, rfl⟩
  have Hne := Lib.hid hne
  rw [hne] at Hx hn ⊢
  clear hx hne
  go_enter Tryz.func176, Tryz.ntmps176
  go_upto_region 1 with fail
  obtain ⟨w0, hw0⟩ : ∃ w0 : World, w0 = (w.alloc (.cells #[.int .i64 num, .int .i64 kd, .int .i64 fr, .int .i64 un, .slice v.a n v.c] 54)).alloc (.cells #[.int .i64 0, .int .i64 0, .int .i64 0, .int .i64 0, .slice none 0 0] 54) := ⟨_, rfl⟩
  rw [← hw0]
  have hr0 : w0.heap[w.heap.size]? = some (.cells #[.int .i64 num, .int .i64 kd, .int .i64 fr, .int .i64 un, .slice v.a n v.c] 54 (0, 0)) := by rw [hw0]; exact (Below.heap_alloc _ _ _ (by simp)).trans (heap_alloc_new w _)
  have Hz0 : Hid (w0.heap[w.heap.size + 1]? = some (.cells #[.int .i64 0, .int .i64 0, .int .i64 0, .int .i64 0, .slice none 0 0] 54 (0, 0))) := Lib.hid (by rw [hw0]; exact heap_alloc2_new w _ _)
  have Hb0 : Hid (Below w.heap.size w w0) := Lib.hid (by rw [hw0]; exact gBel)
  have hs0 : w0.heap.size = w.heap.size + 2 := by rw [hw0]; simp
  have Hs0 := Lib.hid hs0
  have c4 := cell_of_row _ _ 4 _ _ _ hr0
  have Hr0 := Lib.hid hr0
  have Hx0 := Lib.hid (Hx.out.below Hb0.out)
  clear hw0 hr0 hs0
  go_upto_region 2 with (first
    | (go_at_call 109
       refine (cloneR_any v.a n v.c rg _ Hx0.out hn).mono ?_
       rintro e w1 ⟨u, rfl, hown1, hb1⟩
       obtain ⟨A1, d1, rfl, _, _, _⟩ := own_slice hown1
       have hs0 := Hs0.out
       have hr1 := (hb1.block w.heap.size (by omega)).trans Hr0.out
       have Hr1 := Lib.hid hr1
       have Hz1 := Lib.hid ((hb1.block (w.heap.size + 1) (by omega)).trans Hz0.out)
       have Hb1 := Lib.hid (Hb0.out.trans (hb1.mono (by omega)))
       have Hown1 := Lib.hid (own_rebase (base' := w.heap.size + 2) hown1 (by omega))
       have g4 := frozen_of_row _ _ 4 _ _ hr1
       have d4 := cell_of_row _ _ 4 _ _ _ hr1
       clear hown1 hb1 hr1 hs0 c4)
    | fail)
  obtain ⟨w2, hw2⟩ : ∃ w2 : World, w2 = w1.setCell ⟨w.heap.size, 4, none⟩ (.slice A1 n d1) := ⟨_, rfl⟩
  rw [← hw2]
  have hr2 : w2.heap[w.heap.size]? = some (.cells #[.int .i64 num, .int .i64 kd, .int .i64 fr, .int .i64 un, .slice A1 n d1] 54 (0, 0)) := by
    rw [hw2]
    have h := heap_setCell_same w1 w.heap.size 4 _ _ (.slice A1 n d1) Hr1.out
    simpa using h
  have hz2 : w2.heap[w.heap.size + 1]? = some (.cells #[.int .i64 0, .int .i64 0, .int .i64 0, .int .i64 0, .slice none 0 0] 54 (0, 0)) := by
    rw [hw2]; exact (Below.heap_setCell _ _ _ _ (by show w.heap.size + 1 ≠ w.heap.size; omega)).trans Hz1.out
  have Hb2 : Hid (Below w.heap.size w w2) := Lib.hid (by rw [hw2]; exact Hb1.out.setCell (Nat.le_refl _) _)
  have Hown2 : Hid (w2.ownsRow (w.heap.size + 2) 68 4 (.slice A1 n d1) n (rCells rg)) := Lib.hid (by
    rw [hw2]; exact own_other Hown1.out (only_setCell (g := w.heap.size) (World.grownBy.refl _ _) (.inl rfl) _) (fun k hk e => by injection e with e; have := own_base Hown1.out k hk; omega))
  have Hz2 := Lib.hid hz2
  have a0 := cell_of_row _ _ 0 _ _ _ hr2
  have a1 := cell_of_row _ _ 1 _ _ _ hr2
  have a2 := cell_of_row _ _ 2 _ _ _ hr2
  have a3 := cell_of_row _ _ 3 _ _ _ hr2
  have a4 := cell_of_row _ _ 4 _ _ _ hr2
  have z0 := cell_of_row _ _ 0 _ _ _ hz2
  have z1 := cell_of_row _ _ 1 _ _ _ hz2
  have z2 := cell_of_row _ _ 2 _ _ _ hz2
  have z3 := cell_of_row _ _ 3 _ _ _ hz2
  have z4 := cell_of_row _ _ 4 _ _ _ hz2
  have g0 := frozen_of_row _ _ 0 _ _ hz2
  have g1 := frozen_of_row _ _ 1 _ _ hz2
  have g2 := frozen_of_row _ _ 2 _ _ hz2
  have g3 := frozen_of_row _ _ 3 _ _ hz2
  have g5 := frozen_of_row _ _ 4 _ _ hz2
  clear hw2 hr2 hz2 d4 g4
  go_wp2
  have hz5 := ft5 (x := .int .i64 num) (y := .int .i64 kd) (z := .int .i64 fr) (u := .int .i64 un) (v := .slice A1 n d1) Hz2.out
  have y0 := cell_of_row _ _ 0 _ _ _ hz5
  have y1 := cell_of_row _ _ 1 _ _ _ hz5
  have y2 := cell_of_row _ _ 2 _ _ _ hz5
  have y3 := cell_of_row _ _ 3 _ _ _ hz5
  have y4 := cell_of_row _ _ 4 _ _ _ hz5
  refine bodyPost_ret (v := .agg #[.int .i64 num, .int .i64 kd, .int .i64 fr, .int .i64 un, .slice A1 n d1]) (by simp only [results, Tryz.results176, go_sem, y0, y1, y2, y3, y4]; first | rfl | simp [go_sem, *]) rfl ?_
  refine ⟨⟨A1, d1⟩, by rw [← Hne.out], ?_, ((((Hb2.out.setCell (Nat.le_succ _) _).setCell (Nat.le_succ _) _).setCell (Nat.le_succ _) _).setCell (Nat.le_succ _) _).setCell (Nat.le_succ _) _⟩
  dsimp only
  rw [Hne.out]
  exact own_rebase (own_other Hown2.out ft5_only (fun k hk e => by injection e with e; have := own_base Hown2.out k hk; omega)) (by omega)
def AllPost (w : World) (m : List Ft) (e : Ending) (w' : World) : Prop :=
  ∃ (l : FtL) (v : Value), e = .returned v ∧ FtOwn w' w.heap.size v l ∧ fts l = m ∧ Below w.heap.size w w'
theorem all_any (A : Option Addr) (n c : Nat) (l : FtL) (w : World) (hA : SlFt w A n c l) (hl : LyOk (fts l)) :
    Calls Tryz.prog 68 #[.slice A n c] w (AllPost w (fts l)) := by
  obtain ⟨i0, hi, hz0, hz1, hz2⟩ := info_parts Tryz.infoFt
  have hln := hA.len
  have hn60 : n ≤ 60 := by have := hl.len; rw [fts_len] at this; omega
  have HA := Lib.hid hA
  have HL := Lib.hid hl
  have Hln := Lib.hid hln
  clear hA hl hln
  go_enter Tryz.func68, Tryz.ntmps68
  go_upto_region 3 with fail
  go_loopw [3, 5, 8] (fun lv _ iv wr => ∃ (k : Nat) (m : FtL), k ≤ n ∧ iv = .int .i64 (k : Int) ∧ m.length = k ∧ fts m = (fts l).take k ∧ FtOwn wr w.heap.size lv m ∧ Below w.heap.size w wr) (fun _ _ iv _ => n - (intOf iv).toNat)
  case atStart => exact ⟨0, [], Nat.zero_le _, rfl, rfl, by simp [fts], FtOwn.nil _ _, Below.refl _ _⟩
  case round =>
    obtain ⟨k, m, hk, rfl, hmk, hfm, hown, hbw⟩ := hrel
    obtain ⟨wo, rfl⟩ : ∃ wo : World, wo = wr := ⟨_, rfl⟩
    have Hfm := Lib.hid hfm
    have Hown := Lib.hid hown
    have Hbw := Lib.hid hbw
    have hsw := hbw.size
    have Hmk := Lib.hid hmk
    clear hfm hown hbw hmk
    by_cases hkn : k < n
    · have hkn' : (k : Int) < (n : Int) := by omega
      have hkl : k < l.length := by rw [Hln.out]; exact hkn
      obtain ⟨b, off, rfl, hbl, c0, c1, c2, c3, c4, hS⟩ := (HA.out.below Hbw.out).at k hkl
      have hok := HL.out.ok l[k].1 (List.mem_map_of_mem (List.getElem_mem hkl))
      have hrl : l[k].1.rg.length ≤ 120 := (valid_parts hok.rg).1
      have Hstep : Hid (∀ v : LV, fts (m ++ [(l[k].1, v)]) = (fts l).take (k + 1)) := Lib.hid (fun v => by
        have h := List.take_succ_eq_append_getElem (l := fts l) (i := k) (by rw [fts_len]; exact hkl)
        rw [h, ← Hfm.out, fts_get l k hkl]
        simp [fts])
      obtain ⟨x, hx⟩ : ∃ x, x = l[k] := ⟨_, rfl⟩
      rw [← hx] at c0 c1 c2 c3 c4 hS hrl Hstep
      have HS := Lib.hid hS
      clear hS hok hx
      go_upto_region 5 with fail
      obtain ⟨w1, hw1⟩ : ∃ w1 : World, w1 = wo.alloc (.cells #[.int .i64 x.1.num, .int .i64 x.1.kd, .int .i64 x.1.fr, .int .i64 x.1.un, .slice x.2.a x.1.rg.length x.2.c] 54) := ⟨_, rfl⟩
      rw [← hw1]
      have hr1 : w1.heap[wo.heap.size]? = some (.cells #[.int .i64 x.1.num, .int .i64 x.1.kd, .int .i64 x.1.fr, .int .i64 x.1.un, .slice x.2.a x.1.rg.length x.2.c] 54 (0, 0)) := by rw [hw1]; exact heap_alloc_new wo _
      have Hb1 : Hid (Below wo.heap.size wo w1) := Lib.hid (by rw [hw1]; exact gBel)
      have hs1 : wo.heap.size < w1.heap.size := by rw [hw1]; simp
      have HS1 := Lib.hid (HS.out.below Hb1.out)
      have d0 := cell_of_row _ _ 0 _ _ _ hr1
      have d1 := cell_of_row _ _ 1 _ _ _ hr1
      have d2 := cell_of_row _ _ 2 _ _ _ hr1
      have d3 := cell_of_row _ _ 3 _ _ _ hr1
      have d4 := cell_of_row _ _ 4 _ _ _ hr1
      clear hw1 hr1 c0 c1 c2 c3 c4
      go_wp2_with (first
        | (go_at_call 176
           refine (copied_any9 x.1 x.2 _ HS1.out (by omega)).mono ?_
           rintro e w2 ⟨v2, rfl, hown2, hb2⟩
           have Hb2 := Lib.hid (Hb1.out.trans (hb2.mono (by omega)))
           have Hx2 := Lib.hid (own_rebase (base' := w.heap.size) hown2 (by omega))
           have Hap2 : Hid (∀ g, u3.ownBlock = some g → (Value.slice v2.a x.1.rg.length v2.c).ownBlock ≠ some g) := Lib.hid (fun g hg e => by
             have := own_ltY Hown.out.o g hg
             have := own_base hown2 g e
             omega)
           have Hown2 := Lib.hid (Hown.out.below Hb2.out)
           have hs2 : wo.heap.size ≤ w2.heap.size := Hb2.out.size
           clear hb2 hown2)
        | (at_builtin
           refine wpList_append_any _ rfl (.tmp 12) (.tmp 15) _ rfl w.heap.size 54 i0 _ 5 56 Tryz.underlying51 hi hz0 hz1 hz2 rfl (by omega) _ m.length (ftCells m) rfl
             (Hown2.out.o.alloc _) _ _ 1 1 [.int .i64 x.1.num, .int .i64 x.1.kd, .int .i64 x.1.fr, .int .i64 x.1.un, .slice v2.a x.1.rg.length v2.c] rfl ⟨rfl, fun _ => ⟨_, rfl, Nat.lt_succ_self _, fun j u hu => (by exact news_any _ _ _ j u hu)⟩⟩ (by simp [Value.oneCell']) (by have := Hmk.out; simp only [maxLen]; omega) (by have := Hmk.out; omega) (by simp; omega) ?_
           intro v5 w5 hown5 hg5 hat5
           have Hown5 := Lib.hid (Hown2.out.push (x.1, v2) Hx2.out Hap2.out ((Below.refl _ _).alloc (Nat.le_refl _) _) hg5 hown5 hat5)
           have Hb5 := Lib.hid (((Hbw.out.trans (Hb2.out.mono hsw)).alloc (Nat.le_trans hsw hs2) (.cells #[.int .i64 x.1.num, .int .i64 x.1.kd, .int .i64 x.1.fr, .int .i64 x.1.un, .slice v2.a x.1.rg.length v2.c] 54)).grown hg5 (by simp; omega) (own_base Hown2.out.o))
           clear hown5 hg5 hat5)
        | fail)
      go_roundw
      case rel =>
        exact ⟨k + 1, m ++ [(x.1, v2)], by omega, by go_num, by rw [List.length_append, Hmk.out]; rfl, Hstep.out v2, Hown5.out, Hb5.out⟩
      case measure => simp [intOf]; omega
    · have hkn' : ¬ (k : Int) < (n : Int) := by omega
      have Hend : Hid (fts m = fts l) := Lib.hid (by rw [Hfm.out, List.take_of_length_le (by rw [fts_len, Hln.out]; omega)])
      go_wp2
      go_ret
      exact ⟨m, _, rfl, Hown.out, Hend.out, Hbw.out⟩
theorem isThere_eq (d : Int) (x : Ft) : isThere d x = (decide (x.fr ≤ d) && decide (d < x.un)) := rfl
theorem there_any (x : Ft) (v : LV) (d : Int) (w : World) :
    Calls Tryz.prog 70 #[.agg #[.int .i64 x.num, .int .i64 x.kd, .int .i64 x.fr, .int .i64 x.un, .slice v.a x.rg.length v.c], .int .i64 d] w fun e w' => e = .returned (.bool (isThere d x)) ∧ Below w.heap.size w w' := by
  rw [isThere_eq]
  obtain ⟨num, kd, fr, un, rg⟩ := x
  dsimp only
  generalize rg.length = n
  by_cases c1 : fr ≤ d
  · by_cases c2 : d < un
    · have c1d : decide (fr ≤ d) = true := decide_eq_true c1
      have c2d : decide (d < un) = true := decide_eq_true c2
      rw [c1d, c2d]
      go_enter Tryz.func70, Tryz.ntmps70
      go_upto_region 1 with fail
      obtain ⟨w1, hw1⟩ : ∃ w1 : World, w1 = w.alloc (.cells #[.int .i64 num, .int .i64 kd, .int .i64 fr, .int .i64 un, .slice v.a n v.c] 54) := ⟨_, rfl⟩
      rw [← hw1]
      have hr1 : w1.heap[w.heap.size]? = some (.cells #[.int .i64 num, .int .i64 kd, .int .i64 fr, .int .i64 un, .slice v.a n v.c] 54 (0, 0)) := by rw [hw1]; exact heap_alloc_new w _
      have Hb1 : Hid (Below w.heap.size w w1) := Lib.hid (by rw [hw1]; exact gBel)
      have d2 := cell_of_row _ _ 2 _ _ _ hr1
      have d3 := cell_of_row _ _ 3 _ _ _ hr1
      clear hw1 hr1
      go_wp2
      go_ret
      exact ⟨rfl, Hb1.out⟩
    · have c1d : decide (fr ≤ d) = true := decide_eq_true c1
      have c2d : decide (d < un) = false := decide_eq_false c2
      rw [c1d, c2d]
      go_enter Tryz.func70, Tryz.ntmps70
      go_upto_region 1 with fail
      obtain ⟨w1, hw1⟩ : ∃ w1 : World, w1 = w.alloc (.cells #[.int .i64 num, .int .i64 kd, .int .i64 fr, .int .i64 un, .slice v.a n v.c] 54) := ⟨_, rfl⟩
      rw [← hw1]
      have hr1 : w1.heap[w.heap.size]? = some (.cells #[.int .i64 num, .int .i64 kd, .int .i64 fr, .int .i64 un, .slice v.a n v.c] 54 (0, 0)) := by rw [hw1]; exact heap_alloc_new w _
      have Hb1 : Hid (Below w.heap.size w w1) := Lib.hid (by rw [hw1]; exact gBel)
      have d2 := cell_of_row _ _ 2 _ _ _ hr1
      have d3 := cell_of_row _ _ 3 _ _ _ hr1
      clear hw1 hr1
      go_wp2
      go_ret
      exact ⟨rfl, Hb1.out⟩
  · have c1d : decide (fr ≤ d) = false := decide_eq_false c1
    rw [c1d]
    go_enter Tryz.func70, Tryz.ntmps70
    go_upto_region 1 with fail
    obtain ⟨w1, hw1⟩ : ∃ w1 : World, w1 = w.alloc (.cells #[.int .i64 num, .int .i64 kd, .int .i64 fr, .int .i64 un, .slice v.a n v.c] 54) := ⟨_, rfl⟩
    rw [← hw1]
    have hr1 : w1.heap[w.heap.size]? = some (.cells #[.int .i64 num, .int .i64 kd, .int .i64 fr, .int .i64 un, .slice v.a n v.c] 54 (0, 0)) := by rw [hw1]; exact heap_alloc_new w _
    have Hb1 : Hid (Below w.heap.size w w1) := Lib.hid (by rw [hw1]; exact gBel)
    have d2 := cell_of_row _ _ 2 _ _ _ hr1
    have d3 := cell_of_row _ _ 3 _ _ _ hr1
    clear hw1 hr1
    go_wp2
    go_ret
    exact ⟨rfl, Hb1.out⟩
theorem on1_any (x : Ft) (v : LV) (g : Nat) (d : Int) (w : World) (hd : w.cell? ⟨g, 0, none⟩ = some (.int .i64 d)) (hg : g < w.heap.size) :
    Calls Tryz.prog 69 #[.agg #[.int .i64 x.num, .int .i64 x.kd, .int .i64 x.fr, .int .i64 x.un, .slice v.a x.rg.length v.c], .pointer (some ⟨g, 0, none⟩)] w fun e w' => e = .returned (.bool (!isThere d x)) ∧ Below w.heap.size w w' := by
  have HT := Lib.hid (fun W => there_any x v d W)
  obtain ⟨num, kd, fr, un, rg⟩ := x
  dsimp only at HT ⊢
  generalize isThere d ⟨num, kd, fr, un, rg⟩ = b at *
  generalize rg.length = n at *
  have Hd := Lib.hid hd
  clear hd
  go_enter Tryz.func69, Tryz.ntmps69
  go_upto_region 1 with fail
  obtain ⟨w1, hw1⟩ : ∃ w1 : World, w1 = w.alloc (.cells #[.int .i64 num, .int .i64 kd, .int .i64 fr, .int .i64 un, .slice v.a n v.c] 54) := ⟨_, rfl⟩
  rw [← hw1]
  have hr1 : w1.heap[w.heap.size]? = some (.cells #[.int .i64 num, .int .i64 kd, .int .i64 fr, .int .i64 un, .slice v.a n v.c] 54 (0, 0)) := by rw [hw1]; exact heap_alloc_new w _
  have Hb1 : Hid (Below w.heap.size w w1) := Lib.hid (by rw [hw1]; exact gBel)
  have hs1 : w.heap.size ≤ w1.heap.size := Hb1.out.size
  have hd1 := (Hb1.out.cell (p := ⟨g, 0, none⟩) hg).trans Hd.out
  have d0 := cell_of_row _ _ 0 _ _ _ hr1
  have d1 := cell_of_row _ _ 1 _ _ _ hr1
  have d2 := cell_of_row _ _ 2 _ _ _ hr1
  have d3 := cell_of_row _ _ 3 _ _ _ hr1
  have d4 := cell_of_row _ _ 4 _ _ _ hr1
  clear hw1 hr1
  go_wp2_with (first
    | (go_at_call 70; refine (HT.out _).mono ?_; rintro e w2 ⟨rfl, hb2⟩; have Hb2 := Lib.hid hb2; clear hb2)
    | fail)
  go_ret
  exact ⟨rfl, Hb1.out.trans (Hb2.out.mono hs1)⟩
theorem right_any (A : Option Addr) (n c : Nat) (l : FtL) (d : Int) (w : World) (hA : SlFt w A n c l) (hl : LyOk (fts l)) (hd : 0 ≤ d ∧ d ≤ 36864) :
    Calls Tryz.prog 66 #[.slice A n c, .int .i64 d] w fun e w' => e = .returned (.int .i64 0) ∧ Below w.heap.size w w' := by
  have HC := Lib.hid (checkFt_any A n c l w hA hl)
  have n1 : ¬ d < 0 := by omega
  have n2 : ¬ (36864 : Int) < d := by omega
  clear hA hl
  go_enter Tryz.func66, Tryz.ntmps66
  go_wp2_with (first
    | (go_at_call 174; refine HC.out.mono ?_; rintro e w2 ⟨rfl, hb2⟩; have Hb2 := Lib.hid hb2; clear hb2)
    | fail)
  go_ret
  exact ⟨rfl, Hb2.out⟩
def IdxOk (d : Int) (l : List Ft) (k : Int) : Prop := (k = -1 ∧ onP l d = l) ∨ ∃ j : Nat, k = (j : Int) ∧ j < l.length ∧ onP (l.take (j + 1)) d = l.take j
theorem onP_snoc (l : List Ft) (x : Ft) (d : Int) : onP (l ++ [x]) d = if isThere d x = true then onP l d ++ [x] else onP l d := by
  unfold onP
  rw [List.filter_append]
  by_cases h : isThere d x = true <;> simp [h]
theorem onP_take (l : List Ft) (d : Int) (k : Nat) (h : k < l.length) : onP (l.take (k + 1)) d = if isThere d l[k] = true then onP (l.take k) d ++ [l[k]] else onP (l.take k) d := by
  rw [List.take_succ_eq_append_getElem h, onP_snoc]
theorem index9_any (g : Nat) (d : Int) (A : Option Addr) (n c : Nat) (l : FtL) (w : World) (hA : SlFt w A n c l) (hn : n ≤ 60) (hd : w.cell? ⟨g, 0, none⟩ = some (.int .i64 d)) (hg : g < w.heap.size) :
    Calls Tryz.prog 175 #[.slice A n c, .func (.func 69) #[] #[.pointer (some ⟨g, 0, none⟩)]] w fun e w' => ∃ k : Int, e = .returned (.int .i64 k) ∧ IdxOk d (fts l) k ∧ Below w.heap.size w w' := by
  have HA := Lib.hid hA
  have Hln := Lib.hid hA.len
  have Hd := Lib.hid hd
  clear hA hd
  go_enter Tryz.func175, Tryz.ntmps175
  go_upto_region 2 with fail
  go_loopw [5, 8] (fun _ iv wr => ∃ k : Nat, k ≤ n ∧ iv = .int .i64 (k : Int) ∧ onP ((fts l).take k) d = (fts l).take k ∧ Below w.heap.size w wr) (fun _ iv _ => n - (intOf iv).toNat)
  case atStart => exact ⟨0, Nat.zero_le _, rfl, rfl, Below.refl _ _⟩
  case round =>
    obtain ⟨k, hk, rfl, hno, hbw⟩ := hrel
    obtain ⟨wo, rfl⟩ : ∃ wo : World, wo = wr := ⟨_, rfl⟩
    have Hno := Lib.hid hno
    have Hbw := Lib.hid hbw
    have hsw := hbw.size
    clear hno hbw
    by_cases hkn : k < n
    · have hkn' : (k : Int) < (n : Int) := by omega
      have hkl : k < l.length := by rw [Hln.out]; exact hkn
      have hkf : k < (fts l).length := by rw [fts_len]; exact hkl
      obtain ⟨b, off, rfl, hbl, c0, c1, c2, c3, c4, hS⟩ := (HA.out.below Hbw.out).at k hkl
      have HO := Lib.hid (on1_any l[k].1 l[k].2 g d wo ((Hbw.out.cell (p := ⟨g, 0, none⟩) hg).trans Hd.out) (by omega))
      have Ht := Lib.hid (onP_take (fts l) d k hkf)
      rw [fts_get l k hkl, Hno.out] at Ht
      have Hs := Lib.hid (List.take_succ_eq_append_getElem hkf)
      rw [fts_get l k hkl] at Hs
      obtain ⟨x, hx⟩ : ∃ x, x = l[k] := ⟨_, rfl⟩
      rw [← hx] at c0 c1 c2 c3 c4 HO Ht Hs
      clear hS hx
      cases hq : isThere d x.1 with
      | true =>
        rw [hq] at HO Ht
        clear hq
        go_wp2_with (first
          | (go_at_call 69; refine HO.out.mono ?_; rintro e w2 ⟨rfl, hb2⟩; have Hb2 := Lib.hid (Hbw.out.trans (hb2.mono hsw)); clear hb2)
          | fail)
        go_roundw
        case rel => exact ⟨k + 1, by omega, by go_num, by rw [Ht.out, Hs.out]; rfl, Hb2.out⟩
        case measure => simp [intOf]; omega
      | false =>
        rw [hq] at HO Ht
        clear hq
        go_wp2_with (first
          | (go_at_call 69; refine HO.out.mono ?_; rintro e w2 ⟨rfl, hb2⟩; have Hb2 := Lib.hid (Hbw.out.trans (hb2.mono hsw)); clear hb2)
          | fail)
        go_ret
        exact ⟨_, rfl, .inr ⟨k, rfl, hkf, by rw [Ht.out]; rfl⟩, Hb2.out⟩
    · have hkn' : ¬ (k : Int) < (n : Int) := by omega
      have Hall : Hid (onP (fts l) d = fts l) := Lib.hid (by have := Hno.out; rwa [List.take_of_length_le (by rw [fts_len, Hln.out]; omega)] at this)
      go_wp2
      go_ret
      exact ⟨_, rfl, .inl ⟨rfl, Hall.out⟩, Hbw.out⟩
theorem ftCells_cons5 (y : Ft × LV) (s : FtL) : ftCells (y :: s) = .int .i64 y.1.num :: .int .i64 y.1.kd :: .int .i64 y.1.fr :: .int .i64 y.1.un :: .slice y.2.a y.1.rg.length y.2.c :: ftCells s := by simp [ftCells, ftC]
theorem ftCells_take : ∀ (l : FtL) (k : Nat), ftCells (l.take k) = (ftCells l).take (k * 5)
  | [], k => by simp [ftCells]
  | x :: t, 0 => by simp [ftCells]
  | x :: t, k + 1 => by
    rw [List.take_succ_cons, ftCells_cons5, ftCells_cons5, ftCells_take t k, show (k + 1) * 5 = k * 5 + 1 + 1 + 1 + 1 + 1 from by omega]
    rfl
theorem ftCells_set : ∀ (m : FtL) (i : Nat) (y : Ft × LV), i < m.length → ftCells (m.set i y) = (((((ftCells m).set (i * 5) (.int .i64 y.1.num)).set (i * 5 + 1) (.int .i64 y.1.kd)).set (i * 5 + 2) (.int .i64 y.1.fr)).set (i * 5 + 3) (.int .i64 y.1.un)).set (i * 5 + 4) (.slice y.2.a y.1.rg.length y.2.c)
  | [], i, y, h => by simp at h
  | x :: t, 0, y, _ => by simp [ftCells, ftC]
  | x :: t, i + 1, y, h => by
    have ih := ftCells_set t i y (by simpa using h)
    have e : ∀ (y : Ft × LV) (s : FtL), ftCells (y :: s) = .int .i64 y.1.num :: .int .i64 y.1.kd :: .int .i64 y.1.fr :: .int .i64 y.1.un :: .slice y.2.a y.1.rg.length y.2.c :: ftCells s := fun y s => by simp [ftCells, ftC]
    rw [List.set_cons_succ, e, e, ih, show (i + 1) * 5 = i * 5 + 5 from by omega]
    rfl
theorem run_clear_ft (w : World) (ty : TypeId) (g o m c : Nat) (cur : Array Value) (hg : w.heap[g]? = some (.cells cur 54 (0, 0))) (ho : o + m * 5 ≤ cur.size) (hm : 0 < m) :
    ∃ zs : List Value, zs.length = m * 5 ∧ (Builtin.clear_ #[51] ty #[.slice (some ⟨g, o, none⟩) m c]).run Tryz.prog w = .ok (.tuple #[]) (w.setRow g (cur.toList.take o ++ zs ++ cur.toList.drop (o + m * 5)).toArray) := by
  obtain ⟨Z, hZ⟩ : ∃ Z : Array Value, Z = #[.int .i64 0, .int .i64 0, .int .i64 0, .int .i64 0, .slice none 0 0] := ⟨_, rfl⟩
  have hzl : (Builtin.zeroCells Z m).toList.length = m * 5 := by rw [Array.length_toList, size_zeroCells, hZ]; rfl
  have h1 : ∀ v ∈ (Builtin.zeroCells Z m).toList, v.oneCell' = true := by
    intro v hv
    unfold Builtin.zeroCells at hv
    rw [Array.toList_map, List.mem_map] at hv
    obtain ⟨i, hi, rfl⟩ := hv
    have h5 : i % Z.size < 5 := by rw [hZ]; exact Nat.mod_lt _ (by decide)
    generalize i % Z.size = k at h5 ⊢
    rw [hZ]
    rcases (show k = 0 ∨ k = 1 ∨ k = 2 ∨ k = 3 ∨ k = 4 by omega) with rfl | rfl | rfl | rfl | rfl <;> rfl
  have hst := run_storeCells_at (P := Tryz.prog) g o 54 (Builtin.zeroCells Z m).toList 0 cur w hg (by rw [hzl]; omega) h1
  have hz : ∀ w : World, (zeroValue 54).run Tryz.prog w = .ok (.agg Z) w := fun w => by rw [hZ]; kernel_rfl
  obtain ⟨m, rfl⟩ : ∃ k, m = k + 1 := ⟨m - 1, by omega⟩
  refine ⟨(Builtin.zeroCells Z (m + 1)).toList, hzl, ?_⟩
  simp only [Nat.add_zero, hzl] at hst
  simp [Builtin.clear_, run_underlying Tryz.underlying51, hz, Value.cells, hst]
theorem only_setRow9 {a w : World} {g : Nat} (h : a.grownBy w (some g)) (b : Nat) (cs : Array Value) (hb : b = g ∨ a.heap.size ≤ b) : a.grownBy (w.setRow b cs) (some g) :=
  ⟨h.os, h.tape, h.output, by simp [World.setRow]; exact h.size, fun i hi hne => by
    rw [← h.block i hi hne]
    have hib : b ≠ i := by
      rintro rfl
      rcases hb with rfl | hb
      · exact hne rfl
      · omega
    simp [World.setRow, Array.getElem?_modify, hib]⟩
theorem own_head {w w' : World} {base g n cap i : Nat} {zs : List Value} {m : FtL} {cur : Array Value} (hb : base ≤ g) (hg : w.heap[g]? = some (.cells cur 54 (0, 0))) (hsz : cur.size = cap * 5) (hcap : n ≤ cap) (hmx : cap ≤ maxLen) (ht : cur.toList.take (n * 5) = ftCells m) (hm : m.length = n) (hi : i ≤ n) (hz : zs.length = (n - i) * 5) :
    (w.setRow g (cur.toList.take (i * 5) ++ zs ++ cur.toList.drop (i * 5 + (n - i) * 5)).toArray).ownsRow base 54 5 (.slice (some ⟨g, 0, none⟩) i cap) i (ftCells (m.take i)) := by
  have hti : (m.take i).length = i := by rw [List.length_take]; omega
  refine ⟨by rw [ftCells_len, hti], .inr ⟨g, cap, _, rfl, hb, setRow_heap w g cur _ _ _ hg, by omega, hmx, ?_, ?_⟩⟩
  · simp only [List.size_toArray, List.length_append, List.length_take, List.length_drop, Array.length_toList, hsz, hz]
    omega
  · simp only [List.append_assoc]
    rw [List.take_append_of_le_length (by simp only [List.length_take, Array.length_toList, hsz]; omega), List.take_take, Nat.min_self, ftCells_take, ← ht, List.take_take, Nat.min_eq_left (by omega)]
theorem FtOwn.mem {w w' : World} {base : Nat} {v v' : Value} {l m : FtL} (h : FtOwn w base v l) (hk : ∀ b, v.ownBlock ≠ some b → b < w.heap.size → w'.heap[b]? = w.heap[b]?) (hm : ∀ x ∈ m, x ∈ l) (ho : w'.ownsRow base 54 5 v' m.length (ftCells m)) (hv : v'.ownBlock = v.ownBlock) : FtOwn w' base v' m := by
  refine ⟨ho, fun x hx => ?_, fun x hx g hg => h.ap x (hm x hx) g (by rw [← hv]; exact hg)⟩
  obtain ⟨h1, h2⟩ := h.fs x (hm x hx)
  refine ⟨h1, ?_⟩
  rcases h2 with h2 | ⟨g', cap, cur, e, hb, hh, r⟩
  · exact .inl h2
  · have hlt : g' < w.heap.size := by
      rcases Nat.lt_or_ge g' w.heap.size with h | h
      · exact h
      · rw [Array.getElem?_eq_none h] at hh; cases hh
    refine .inr ⟨g', cap, cur, e, hb, (hk g' (fun hg => ?_) hlt).trans hh, r⟩
    have := h.ap x (hm x hx) g' hg
    rw [e] at this
    exact this rfl
theorem delete9_any (w0 w : World) (g : Nat) (d : Int) (A : Option Addr) (n c : Nat) (l : FtL) (hb : Below w0.heap.size w0 w) (hown : FtOwn w w0.heap.size (.slice A n c) l) (hln : l.length = n) (hn : n ≤ 60) (hd : w.cell? ⟨g, 0, none⟩ = some (.int .i64 d)) (hg : g < w.heap.size) (hga : ∀ k, (Value.slice A n c).ownBlock = some k → k ≠ g) :
    Calls Tryz.prog 67 #[.slice A n c, .func (.func 69) #[] #[.pointer (some ⟨g, 0, none⟩)]] w (AllPost w0 (onP (fts l) d)) := by
  have HI := Lib.hid (index9_any g d A n c l w (by have := hln; subst this; exact hown.sl) hn hd hg)
  have Hb := Lib.hid hb
  have Hown := Lib.hid hown
  have Hln := Lib.hid hln
  have Hd := Lib.hid hd
  have Hga := Lib.hid hga
  have hs0 : w0.heap.size ≤ w.heap.size := hb.size
  clear hb hown hln hd hga
  go_enter Tryz.func67, Tryz.ntmps67
  go_upto_region 2 with (first
    | (go_at_call 175; refine HI.out.mono ?_; rintro e w1 ⟨k0, rfl, hidx, hb1⟩; have Hidx := Lib.hid hidx; have Hb1 := Lib.hid hb1; have hs1 := hb1.size; clear hidx hb1)
    | fail)
  rcases Hidx.out with ⟨rfl, hall⟩ | ⟨j0, rfl, hj0, htk⟩
  · go_wp2
    go_ret
    exact ⟨l, _, rfl, Hown.out.below Hb1.out, hall.symm, Hb.out.trans (Hb1.out.mono hs0)⟩
  · have hj0n : j0 < n := by rw [fts_len, Hln.out] at hj0; exact hj0
    have Htk := Lib.hid htk
    have hnn : ¬ ((j0 : Int) = -1) := by omega
    have hnq : ((j0 : Int) == -1) = false := by simp
    obtain ⟨J0, hJ0⟩ : ∃ J0 : Nat, J0 = j0 + 1 := ⟨_, rfl⟩
    have HJ0 := Lib.hid hJ0
    have hw0 : IntKind.i64.wrap ((j0 : Int) + 1) = (J0 : Int) := by rw [hJ0, show ((j0 : Int) + 1) = ((j0 + 1 : Nat) : Int) from by omega]; exact IntWalk.i64_in _ (by omega)
    clear hJ0
    clear htk hj0
    obtain ⟨gA, cA, hA, hgb, hgl, hnc, hcm, -, -⟩ := own_at (Hown.out.o) (by rw [Hln.out]; omega)
    injection hA with e1 e2 e3
    subst e1 e3
    clear e2
    have hgA : gA ≠ g := Hga.out gA rfl
    replace hnc : n ≤ c := by have := Hln.out; omega
    unfold maxLen at hcm
    go_upto_region 5 with fail
    go_loopw [5, 6, 7] (fun iv jv _ wr => ∃ (i j : Nat) (m : FtL), iv = .int .i64 (i : Int) ∧ jv = .int .i64 (j : Int) ∧ i < j ∧ j ≤ n ∧ m.length = n ∧ (∀ x ∈ m, x ∈ l) ∧ fts (m.take i) = onP ((fts l).take j) d ∧ m.drop j = l.drop j ∧ FtOwn wr w0.heap.size (.slice (some ⟨gA, 0, none⟩) n c) m ∧ w1.grownBy wr (some gA)) (fun _ jv _ _ => n - (intOf jv).toNat)
    case atStart => exact ⟨j0, J0, l, rfl, rfl, by have := HJ0.out; omega, by have := HJ0.out; omega, Hln.out, fun x hx => hx, by rw [HJ0.out, Htk.out]; simp [fts, List.map_take], rfl, Hown.out.below Hb1.out, World.grownBy.refl _ _⟩
    case round =>
      obtain ⟨i, j, m, rfl, rfl, hij, hjn, hmn, hmem, hti, hdj, hom, hgr⟩ := hrel
      obtain ⟨wo, rfl⟩ : ∃ wo : World, wo = wr := ⟨_, rfl⟩
      have Hmn := Lib.hid hmn
      have Hmem := Lib.hid hmem
      have Hti := Lib.hid hti
      have Hdj := Lib.hid hdj
      have Hom := Lib.hid hom
      have Hgr := Lib.hid hgr
      have hso := hgr.size
      clear hmn hmem hti hdj hom hgr
      by_cases hlt : j < n
      · have hlt' : (j : Int) < (n : Int) := by omega
        have hmj : j < m.length := by rw [Hmn.out]; exact hlt
        have hlj : j < l.length := by rw [Hln.out]; exact hlt
        have hlf : j < (fts l).length := by rw [fts_len]; exact hlj
        have heq : m[j] = l[j] := by
          have h1 : (m.drop j)[0]? = (l.drop j)[0]? := by rw [Hdj.out]
          rw [List.getElem?_drop, List.getElem?_drop, Nat.add_zero, List.getElem?_eq_getElem hmj, List.getElem?_eq_getElem hlj] at h1
          exact Option.some.inj h1
        have Ht := Lib.hid (onP_take (fts l) d j hlf)
        rw [fts_get l j hlj, ← heq, ← Hti.out] at Ht
        have Hmj : Hid (m[j] ∈ m) := Lib.hid (List.getElem_mem hmj)
        have Hd2 : Hid (m.drop (j + 1) = l.drop (j + 1)) := Lib.hid (by
          have := congrArg (List.drop 1) Hdj.out
          rwa [List.drop_drop, List.drop_drop] at this)
        obtain ⟨b', off', hbe, hbl, c0, c1, c2, c3, c4, hS⟩ := (show SlFt wo (some ⟨gA, 0, none⟩) m.length c m from (by have := Hom.out; rw [← Hmn.out] at this; exact this.sl)).at j hmj
        injection hbe with hbe
        injection hbe with hb1 hb2
        subst hb1 hb2
        rw [Nat.zero_add] at c0 c1 c2 c3 c4
        obtain ⟨x, hx⟩ : ∃ x, x = m[j] := ⟨_, rfl⟩
        rw [← hx] at c0 c1 c2 c3 c4 hS Ht Hmj heq
        clear hS hx heq
        go_upto_region 8 with fail
        obtain ⟨wa, hwa⟩ : ∃ wa : World, wa = wo.alloc (.cells #[.int .i64 x.1.num, .int .i64 x.1.kd, .int .i64 x.1.fr, .int .i64 x.1.un, .slice x.2.a x.1.rg.length x.2.c] 54) := ⟨_, rfl⟩
        rw [← hwa]
        have hra : wa.heap[wo.heap.size]? = some (.cells #[.int .i64 x.1.num, .int .i64 x.1.kd, .int .i64 x.1.fr, .int .i64 x.1.un, .slice x.2.a x.1.rg.length x.2.c] 54 (0, 0)) := by rw [hwa]; exact heap_alloc_new wo _
        have Hra := Lib.hid hra
        have Hba : Hid (Below wo.heap.size wo wa) := Lib.hid (by rw [hwa]; exact gBel)
        have hsa : wo.heap.size < wa.heap.size := by rw [hwa]; simp
        have HO := Lib.hid (on1_any x.1 x.2 g d wa (by
          have h1 := World.cell?_of_block (a := ⟨g, 0, none⟩) ((Hba.out.block g (by omega)).trans (Hgr.out.block g (by omega) (fun e => by injection e with e; exact hgA e.symm)))
          rw [h1]
          exact (Hb1.out.cell (p := ⟨g, 0, none⟩) hg).trans Hd.out) (by omega))
        have d0 := cell_of_row _ _ 0 _ _ _ hra
        have d1 := cell_of_row _ _ 1 _ _ _ hra
        have d2 := cell_of_row _ _ 2 _ _ _ hra
        have d3 := cell_of_row _ _ 3 _ _ _ hra
        have d4 := cell_of_row _ _ 4 _ _ _ hra
        clear hwa hra c0 c1 c2 c3 c4
        cases hq : isThere d x.1 with
        | false =>
          rw [hq] at HO Ht
          clear hq
          go_wp2_with (first
            | (go_at_call 69; refine HO.out.mono ?_; rintro e w2 ⟨rfl, hb2⟩; have Hb2 := Lib.hid (Hba.out.trans (hb2.mono (by omega))); clear hb2)
            | fail)
          go_roundw
          case rel => exact ⟨i, j + 1, m, rfl, by go_num, by omega, by omega, Hmn.out, Hmem.out, by rw [Ht.out]; rfl, Hd2.out, Hom.out.below Hb2.out, only_below Hgr.out Hb2.out hso⟩
          case measure => simp [intOf]; omega
        | true =>
          rw [hq] at HO Ht
          clear hq
          go_upto_region 9 with (first
            | (go_at_call 69
               refine HO.out.mono ?_
               rintro e w2 ⟨rfl, hb2⟩
               have hrb := (hb2.block wo.heap.size hsa).trans Hra.out
               have Hb2 := Lib.hid (Hba.out.trans (hb2.mono (by omega)))
               have Ho2 := Lib.hid (Hom.out.below Hb2.out)
               have Hg2 := Lib.hid (only_below Hgr.out Hb2.out hso)
               have f0 := cell_of_row _ _ 0 _ _ _ hrb
               have f1 := cell_of_row _ _ 1 _ _ _ hrb
               have f2 := cell_of_row _ _ 2 _ _ _ hrb
               have f3 := cell_of_row _ _ 3 _ _ _ hrb
               have f4 := cell_of_row _ _ 4 _ _ _ hrb
               clear hrb hb2 d0 d1 d2 d3 d4)
            | fail)
          have him : i < m.length := by rw [Hmn.out]; omega
          obtain ⟨k0, k1, k2, k3, k4⟩ := ftCells_at m i him
          obtain ⟨hcell, hfr⟩ : (∀ j u, (ftCells m)[j]? = some u → w2.cell? ⟨gA, j, none⟩ = some u) ∧ ∀ j, w2.frozen? ⟨gA, j, none⟩ = false := by
            obtain ⟨g', c', hAe, _, _, _, _, h1, h2⟩ := own_at Ho2.out.o (by rw [Hmn.out]; omega)
            injection hAe with e1 _ _
            injection e1 with e1
            injection e1 with e1
            subst e1
            exact ⟨h1, h2⟩
          have s0 := hcell _ _ k0
          have s1 := hcell _ _ k1
          have s2 := hcell _ _ k2
          have s3 := hcell _ _ k3
          have s4 := hcell _ _ k4
          have t0 := hfr (i * 5)
          have t1 := hfr (i * 5 + 1)
          have t2 := hfr (i * 5 + 2)
          have t3 := hfr (i * 5 + 3)
          have t4 := hfr (i * 5 + 4)
          have hin' : (i : Int) < (n : Int) := by omega
          have hin2 : i < n := by omega
          clear k0 k1 k2 k3 k4 hcell hfr
          go_wp2
          go_roundw
          case rel =>
            have Hset : Hid (FtOwn (((((w2.setCell ⟨gA, i * 5, none⟩ (.int .i64 x.1.num)).setCell ⟨gA, i * 5 + 1, none⟩ (.int .i64 x.1.kd)).setCell ⟨gA, i * 5 + 2, none⟩ (.int .i64 x.1.fr)).setCell ⟨gA, i * 5 + 3, none⟩ (.int .i64 x.1.un)).setCell ⟨gA, i * 5 + 4, none⟩ (.slice x.2.a x.1.rg.length x.2.c)) w0.heap.size (.slice (some ⟨gA, 0, none⟩) n c) (m.set i x)) := Lib.hid (by
              refine Ho2.out.mem (fun b hne hb => ?_) (fun y hy => ?_) ?_ rfl
              · have hne2 : b ≠ gA := fun e => hne (by rw [e]; rfl)
                rw [Below.heap_setCell _ _ _ _ hne2, Below.heap_setCell _ _ _ _ hne2, Below.heap_setCell _ _ _ _ hne2, Below.heap_setCell _ _ _ _ hne2, Below.heap_setCell _ _ _ _ hne2]
              · rcases List.mem_or_eq_of_mem_set hy with h | rfl
                · exact h
                · exact Hmj.out
              · rw [List.length_set, ftCells_set m i x him]
                have h5 := Ho2.out.o
                rw [Hmn.out] at h5 ⊢
                exact own_setN (own_setN (own_setN (own_setN (own_setN h5 _ _) _ _) _ _) _ _) _ _)
            refine ⟨i + 1, j + 1, m.set i x, by go_num, by go_num, by omega, by omega, by rw [List.length_set]; exact Hmn.out, fun y hy => ?_, ?_, ?_, Hset.out, ?_⟩
            · rcases List.mem_or_eq_of_mem_set hy with h | rfl
              · exact Hmem.out _ h
              · exact Hmem.out _ Hmj.out
            · rw [Ht.out, if_pos trivial, List.take_succ_eq_append_getElem (by rw [List.length_set]; exact him), List.getElem_set_self, List.take_set_of_le (Nat.le_refl _)]
              simp [fts]
            · rw [List.drop_set_of_lt (by omega)]; exact Hd2.out
            · exact only_setCell (only_setCell (only_setCell (only_setCell (only_setCell Hg2.out (.inl rfl) _) (.inl rfl) _) (.inl rfl) _) (.inl rfl) _) (.inl rfl) _
          case measure => simp [intOf]; omega
      · have hlt' : ¬ (j : Int) < (n : Int) := by omega
        obtain rfl : j = n := by omega
        have Hend : Hid (fts (m.take i) = onP (fts l) d) := Lib.hid (by rw [Hti.out, List.take_of_length_le (by rw [fts_len, Hln.out]; omega)])
        have hin : (i : Int) ≤ (j : Int) := by omega
        have hic : (i : Int) ≤ (c : Int) := by omega
        have hi0 : (0 : Int) ≤ (i : Int) := by omega
        have hci : ¬ c = i := by omega
        have hci2 : ¬ (c : Int) = (i : Int) := by omega
        have ho := Hom.out.o
        rw [Hmn.out] at ho
        obtain ⟨_, h2⟩ := ho
        rcases h2 with ⟨h3, _⟩ | ⟨g', cap', cur, h3, hgb2, hgh, hcap2, hmx2, hsz2, htk2⟩
        · cases h3
        injection h3 with e1 _ e3
        injection e1 with e1
        injection e1 with e1
        subst e1 e3
        obtain ⟨zs, hzs, hclr⟩ := run_clear_ft wo 0 gA (i * 5) (j - i) (c - i) cur hgh (by rw [hsz2]; omega) (by omega)
        have Hown9 := Lib.hid (own_head (w' := wo) hgb2 hgh hsz2 hcap2 hmx2 htk2 Hmn.out (Nat.le_of_lt hij) hzs)
        have Hcl := Lib.hid hclr
        have Hgh := Lib.hid hgh
        obtain ⟨cur3, hcur3⟩ : ∃ c3, (cur.toList.take (i * 5) ++ zs ++ cur.toList.drop (i * 5 + (j - i) * 5)).toArray = c3 := ⟨_, rfl⟩
        rw [hcur3] at Hown9 Hcl
        have hclr0 := Hcl.out
        clear hgh hsz2 htk2 hcur3 hclr hzs hgb2
        go_wp2
        go_ret
        have hgw : w1.grownBy (wo.setRow gA cur3) (some gA) := only_setRow9 Hgr.out gA cur3 (.inl rfl)
        refine ⟨m.take i, _, rfl, Hom.out.mem (fun b hne hb => ?_) (fun x hx => List.mem_of_mem_take hx) (by rw [show (m.take i).length = i from by rw [List.length_take, Hmn.out]; omega]; exact Hown9.out) rfl, Hend.out, below_only (Hb.out.trans (Hb1.out.mono hs0)) hgw (by omega) (by omega)⟩
        have hne2 : gA ≠ b := fun e => hne (by rw [← e]; rfl)
        simp [World.setRow, Array.getElem?_modify, hne2]
theorem on_any (A : Option Addr) (n c : Nat) (l : FtL) (d : Int) (w : World) (hA : SlFt w A n c l) (hl : LyOk (fts l)) (hd : 0 ≤ d ∧ d ≤ 36864) :
    Calls Tryz.prog 19 #[.slice A n c, .int .i64 d] w fun e w' => ∃ (m : FtL) (v : Value), e = .returned (.tuple #[v, .int .i64 0]) ∧ FtOwn w' w.heap.size v m ∧ fts m = onP (fts l) d ∧ Below w.heap.size w w' := by
  have HA := Lib.hid hA
  have HL := Lib.hid hl
  have Hln := Lib.hid hA.len
  have hl60 := hl.len
  clear hA hl
  go_enter Tryz.func19, Tryz.ntmps19
  go_upto_region 1 with fail
  obtain ⟨w1, hw1⟩ : ∃ w1 : World, w1 = w.alloc (.cells #[.int .i64 d] 3) := ⟨_, rfl⟩
  rw [← hw1]
  have hr1 : w1.heap[w.heap.size]? = some (.cells #[.int .i64 d] 3 (0, 0)) := by rw [hw1]; exact heap_alloc_new w _
  have Hr1 := Lib.hid hr1
  have Hb1 : Hid (Below w.heap.size w w1) := Lib.hid (by rw [hw1]; exact gBel)
  have hs1 : w.heap.size < w1.heap.size := by rw [hw1]; simp
  have HA1 := Lib.hid (HA.out.below Hb1.out)
  have d1 := cell_of_row _ _ 0 _ _ _ hr1
  clear hw1 hr1
  go_wp2_with (first
    | (go_at_call 66
       refine (right_any A n c l d _ HA1.out HL.out hd).mono ?_
       rintro e w2 ⟨rfl, hb2⟩
       have Hb2 := Lib.hid (Hb1.out.trans (hb2.mono (by omega)))
       have Hr2 := Lib.hid ((hb2.block w.heap.size hs1).trans Hr1.out)
       have HA2 := Lib.hid (HA1.out.below hb2)
       have hs2 : w.heap.size < w2.heap.size := Nat.lt_of_lt_of_le hs1 hb2.size
       clear hb2 d1)
    | (go_at_call 68
       refine (all_any A n c l _ HA2.out HL.out).mono ?_
       rintro e w3 ⟨m, v, rfl, hown3, hfm, hb3⟩
       obtain ⟨A3, c3, rfl, _, _, _⟩ := own_slice hown3.o
       have Hr3 := Lib.hid ((hb3.block w.heap.size hs2).trans Hr2.out)
       have hml : m.length ≤ 60 := by have h := congrArg List.length hfm; rw [fts_len] at h; omega
       have HD := Lib.hid (delete9_any w w3 w.heap.size d A3 m.length c3 m (Hb2.out.trans (hb3.mono (by omega))) (hown3.rebase (by omega)) rfl hml (cell_of_row _ _ 0 _ _ _ Hr3.out) (Nat.lt_of_lt_of_le hs2 hb3.size) (fun k hk e => by have := own_base hown3.o k hk; omega))
       rw [hfm] at HD
       obtain ⟨nm, hnm⟩ : ∃ nm, m.length = nm := ⟨_, rfl⟩
       rw [hnm] at HD ⊢
       clear hown3 hb3 hfm hml hnm)
    | (go_at_call 67
       refine HD.out.mono ?_
       rintro e w4 ⟨m4, v4, rfl, hown4, hfm4, hb4⟩
       have Hown4 := Lib.hid hown4
       have Hfm4 := Lib.hid hfm4
       have Hb4 := Lib.hid hb4
       clear hown4 hfm4 hb4)
    | fail)
  go_ret2
  exact ⟨m4, v4, rfl, Hown4.out, Hfm4.out, Hb4.out⟩
end Go.Proofs.YtfmkmhhghmdakaaGreatDoor
