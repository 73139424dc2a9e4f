/- Contract: copied (the reference of draw). -/
import Derived.Test.YtbkkmgofjhaaoaaD5
namespace Go.Proofs.Ytbkkmgofjhaaoaa
open Go.RowKit
set_option linter.unusedVariables false
set_option linter.unusedSimpArgs false

theorem Sl.reads {w : World} {A : Option Addr} {c : Nat} {α : Type} {f : α → Value} {l : List α} (h : Sl w A c (l.map f)) : Reads w w.heap.size 1 A l.length (l.map f) := by
  have := h.lies
  rw [List.length_map] at this
  exact this.reads (by simp)

set_option maxHeartbeats 16000000 in
set_option maxRecDepth 100000 in
theorem copied_any (p : DV) (d : Dr) (w : World) (h : DrAt w p d) (hl : d.small) : Calls Try.prog 45 #[.agg #[.int .i64 d.st, .slice p.a1 d.se.length p.c1, .slice p.a2 d.sd.length p.c2, .slice p.a3 d.sx.length p.c3, .slice p.a4 d.rv.length p.c4]] w (DrPost w d) := by
  obtain ⟨iu0, iuh, iuz0, iuz1, iuz2⟩ := info_parts Try.infoU
  obtain ⟨ib0, ibh, ibz0, ibz1, ibz2⟩ := info_parts Try.infoBo
  have H := Lib.hid h
  unfold Dr.small at hl
  obtain ⟨hl1, hl2, hl3, hl4⟩ := hl
  clear h
  go_enter Try.func45, Try.ntmps45
  go_upto_region 1 with fail
  obtain ⟨w0, hw0⟩ : ∃ w0 : World, w0 = (w.alloc (.cells #[.int .i64 d.st, .slice p.a1 d.se.length p.c1, .slice p.a2 d.sd.length p.c2, .slice p.a3 d.sx.length p.c3, .slice p.a4 d.rv.length p.c4] 26)).alloc (.cells #[.int .i64 0, .slice none 0 0, .slice none 0 0, .slice none 0 0, .slice none 0 0] 26) := ⟨_, rfl⟩
  rw [← hw0]
  have hr : w0.heap[w.heap.size]? = some (.cells #[.int .i64 d.st, .slice p.a1 d.se.length p.c1, .slice p.a2 d.sd.length p.c2, .slice p.a3 d.sx.length p.c3, .slice p.a4 d.rv.length p.c4] 26 (0, 0)) := by rw [hw0]; exact (Below.heap_alloc _ _ _ (by simp)).trans (heap_alloc_new w _)
  have hz : w0.heap[w.heap.size + 1]? = some (.cells #[.int .i64 0, .slice none 0 0, .slice none 0 0, .slice none 0 0, .slice none 0 0] 26 (0, 0)) := by
    have := heap_alloc2_new w (.cells #[.int .i64 d.st, .slice p.a1 d.se.length p.c1, .slice p.a2 d.sd.length p.c2, .slice p.a3 d.sx.length p.c3, .slice p.a4 d.rv.length p.c4] 26) (.cells #[.int .i64 0, .slice none 0 0, .slice none 0 0, .slice none 0 0, .slice none 0 0] 26)
    rw [hw0]; exact this
  have c00 := cell_of_row w0 w.heap.size 0 _ _ _ hr
  have c01 := cell_of_row w0 w.heap.size 1 _ _ _ hr
  have c02 := cell_of_row w0 w.heap.size 2 _ _ _ hr
  have c03 := cell_of_row w0 w.heap.size 3 _ _ _ hr
  have c04 := cell_of_row w0 w.heap.size 4 _ _ _ hr
  have hs0 : w0.heap.size = w.heap.size + 2 := by rw [hw0]; simp
  have hd0 : w0.drew.heap.size = w0.heap.size := rfl
  have hsz : w.heap.size + 2 ≤ w0.drew.heap.size := by rw [hd0, hs0]; exact Nat.le_refl _
  have HB : Hid (Below w.heap.size w w0.drew) := Lib.hid (Below.drew (by rw [hw0]; exact (by repeat' (first | with_reducible exact Below.refl _ _ | with_reducible refine below_drewN ?_ _ | with_reducible refine Below.drew ?_ | with_reducible refine Below.alloc ?_ ?_ _ | with_reducible refine Below.setCell ?_ ?_ _ | with_reducible refine Below.trans ?_ (Below.mono (by with_reducible assumption) ?_) | (simp; done) | (simp; omega) | omega))))
  clear hw0
  go_region_held3 (fun w' => w'.cell? ⟨w.heap.size, 0, none⟩ = some (.int .i64 d.st) ∧ w'.cell? ⟨w.heap.size, 1, none⟩ = some (.slice p.a1 d.se.length p.c1) ∧ w'.cell? ⟨w.heap.size, 2, none⟩ = some (.slice p.a2 d.sd.length p.c2) ∧ w'.cell? ⟨w.heap.size, 3, none⟩ = some (.slice p.a3 d.sx.length p.c3) ∧ w'.cell? ⟨w.heap.size, 4, none⟩ = some (.slice p.a4 d.rv.length p.c4))
    (first | go_keep | ((repeat' apply And.intro) <;> go_keep) | ((repeat' apply And.intro) <;> (repeat rw [World.cell?_setCell_other _ _ _ _ (by intro e; injection e; omega)]) <;> go_keep))
    (first
        | (refine step_append_any _ rfl (.const (Value.slice none 0 0)) (.tmp 6) 23 rfl _ 27 iu0 (.int .u64 0) 1 8 Try.underlying23 iuh iuz0 iuz1 iuz2 rfl (by omega) (.slice none 0 0) 0 [] rfl own_zero0 _ p.a1 d.se.length p.c1 (d.se.map (Value.int .u64)) rfl ((H.out.s1.below HB.out).reads) (U_one _) (by unfold maxLen; omega) (by omega) (Nat.le_refl _) ?_
           intro v1 w1 hown1 hg1 hat1
           have hn1 := Below.grown (Below.refl _ _) hg1 (Nat.le_refl _) (by intro k hk; simp [Value.ownBlock] at hk)
           have hss1 := hn1.size
           simp only [Nat.zero_add, List.nil_append] at hown1
           have hlt1 := Lib.hid hown1.lt
           obtain ⟨q1, e1, rfl, _, _, _⟩ := own_slice hown1
           have Ho1 := Lib.hid hown1
           try (replace Ho2 := Lib.hid (ownsRow_below Ho2.out hn1))
           try (replace Ho3 := Lib.hid (ownsRow_below Ho3.out hn1))
           try (replace Ho4 := Lib.hid (ownsRow_below Ho4.out hn1))
           replace HB := Lib.hid (HB.out.trans (hn1.mono (Nat.le_trans (Nat.le_add_right _ 2) hsz)))
           have hrn := (hn1.block _ (Nat.lt_of_lt_of_le (Nat.lt_of_lt_of_le (Nat.lt_succ_self _) (Nat.le_succ _)) hsz)).trans hr
           have hzn := (hn1.block _ (Nat.lt_of_lt_of_le (Nat.lt_succ_self _) hsz)).trans hz
           replace hsz := Nat.le_trans hsz hn1.size
           clear hr hz
           have hr := hrn
           have hz := hzn
           clear hrn hzn
           have c10 := cell_of_row w1 w.heap.size 0 _ _ _ hr
           have c11 := cell_of_row w1 w.heap.size 1 _ _ _ hr
           have c12 := cell_of_row w1 w.heap.size 2 _ _ _ hr
           have c13 := cell_of_row w1 w.heap.size 3 _ _ _ hr
           have c14 := cell_of_row w1 w.heap.size 4 _ _ _ hr
           have z10 := cell_of_row w1 (w.heap.size + 1) 0 _ _ _ hz
           have g10 := frozen_of_row w1 (w.heap.size + 1) 0 _ _ hz
           have z11 := cell_of_row w1 (w.heap.size + 1) 1 _ _ _ hz
           have g11 := frozen_of_row w1 (w.heap.size + 1) 1 _ _ hz
           have z12 := cell_of_row w1 (w.heap.size + 1) 2 _ _ _ hz
           have g12 := frozen_of_row w1 (w.heap.size + 1) 2 _ _ hz
           have z13 := cell_of_row w1 (w.heap.size + 1) 3 _ _ _ hz
           have g13 := frozen_of_row w1 (w.heap.size + 1) 3 _ _ hz
           have z14 := cell_of_row w1 (w.heap.size + 1) 4 _ _ _ hz
           have g14 := frozen_of_row w1 (w.heap.size + 1) 4 _ _ hz
           clear hown1 hg1 hat1 hn1)
        | (refine step_append_any _ rfl (.const (Value.slice none 0 0)) (.tmp 9) 24 rfl _ 4 ib0 (.bool false) 1 1 Try.underlying24 ibh ibz0 ibz1 ibz2 rfl (by omega) (.slice none 0 0) 0 [] rfl own_zero0 _ p.a2 d.sd.length p.c2 (d.sd.map Value.bool) rfl ((H.out.s2.below HB.out).reads) (Bo_one _) (by unfold maxLen; omega) (by omega) (Nat.le_refl _) ?_
           intro v2 w2 hown2 hg2 hat2
           have hn2 := Below.grown (Below.refl _ _) hg2 (Nat.le_refl _) (by intro k hk; simp [Value.ownBlock] at hk)
           have hss2 := hn2.size
           simp only [Nat.zero_add, List.nil_append] at hown2
           have hlt2 := Lib.hid hown2.lt
           obtain ⟨q2, e2, rfl, _, _, _⟩ := own_slice hown2
           have Ho2 := Lib.hid hown2
           try (replace Ho1 := Lib.hid (ownsRow_below Ho1.out hn2))
           try (replace Ho3 := Lib.hid (ownsRow_below Ho3.out hn2))
           try (replace Ho4 := Lib.hid (ownsRow_below Ho4.out hn2))
           replace HB := Lib.hid (HB.out.trans (hn2.mono (Nat.le_trans (Nat.le_add_right _ 2) hsz)))
           have hrn := (hn2.block _ (Nat.lt_of_lt_of_le (Nat.lt_of_lt_of_le (Nat.lt_succ_self _) (Nat.le_succ _)) hsz)).trans hr
           have hzn := (hn2.block _ (Nat.lt_of_lt_of_le (Nat.lt_succ_self _) hsz)).trans hz
           replace hsz := Nat.le_trans hsz hn2.size
           clear hr hz
           have hr := hrn
           have hz := hzn
           clear hrn hzn
           have c20 := cell_of_row w2 w.heap.size 0 _ _ _ hr
           have c21 := cell_of_row w2 w.heap.size 1 _ _ _ hr
           have c22 := cell_of_row w2 w.heap.size 2 _ _ _ hr
           have c23 := cell_of_row w2 w.heap.size 3 _ _ _ hr
           have c24 := cell_of_row w2 w.heap.size 4 _ _ _ hr
           have z20 := cell_of_row w2 (w.heap.size + 1) 0 _ _ _ hz
           have g20 := frozen_of_row w2 (w.heap.size + 1) 0 _ _ hz
           have z21 := cell_of_row w2 (w.heap.size + 1) 1 _ _ _ hz
           have g21 := frozen_of_row w2 (w.heap.size + 1) 1 _ _ hz
           have z22 := cell_of_row w2 (w.heap.size + 1) 2 _ _ _ hz
           have g22 := frozen_of_row w2 (w.heap.size + 1) 2 _ _ hz
           have z23 := cell_of_row w2 (w.heap.size + 1) 3 _ _ _ hz
           have g23 := frozen_of_row w2 (w.heap.size + 1) 3 _ _ hz
           have z24 := cell_of_row w2 (w.heap.size + 1) 4 _ _ _ hz
           have g24 := frozen_of_row w2 (w.heap.size + 1) 4 _ _ hz
           clear hown2 hg2 hat2 hn2)
        | (refine step_append_any _ rfl (.const (Value.slice none 0 0)) (.tmp 12) 23 rfl _ 27 iu0 (.int .u64 0) 1 8 Try.underlying23 iuh iuz0 iuz1 iuz2 rfl (by omega) (.slice none 0 0) 0 [] rfl own_zero0 _ p.a3 d.sx.length p.c3 (d.sx.map (Value.int .u64)) rfl ((H.out.s3.below HB.out).reads) (U_one _) (by unfold maxLen; omega) (by omega) (Nat.le_refl _) ?_
           intro v3 w3 hown3 hg3 hat3
           have hn3 := Below.grown (Below.refl _ _) hg3 (Nat.le_refl _) (by intro k hk; simp [Value.ownBlock] at hk)
           have hss3 := hn3.size
           simp only [Nat.zero_add, List.nil_append] at hown3
           have hlt3 := Lib.hid hown3.lt
           obtain ⟨q3, e3, rfl, _, _, _⟩ := own_slice hown3
           have Ho3 := Lib.hid hown3
           try (replace Ho1 := Lib.hid (ownsRow_below Ho1.out hn3))
           try (replace Ho2 := Lib.hid (ownsRow_below Ho2.out hn3))
           try (replace Ho4 := Lib.hid (ownsRow_below Ho4.out hn3))
           replace HB := Lib.hid (HB.out.trans (hn3.mono (Nat.le_trans (Nat.le_add_right _ 2) hsz)))
           have hrn := (hn3.block _ (Nat.lt_of_lt_of_le (Nat.lt_of_lt_of_le (Nat.lt_succ_self _) (Nat.le_succ _)) hsz)).trans hr
           have hzn := (hn3.block _ (Nat.lt_of_lt_of_le (Nat.lt_succ_self _) hsz)).trans hz
           replace hsz := Nat.le_trans hsz hn3.size
           clear hr hz
           have hr := hrn
           have hz := hzn
           clear hrn hzn
           have c30 := cell_of_row w3 w.heap.size 0 _ _ _ hr
           have c31 := cell_of_row w3 w.heap.size 1 _ _ _ hr
           have c32 := cell_of_row w3 w.heap.size 2 _ _ _ hr
           have c33 := cell_of_row w3 w.heap.size 3 _ _ _ hr
           have c34 := cell_of_row w3 w.heap.size 4 _ _ _ hr
           have z30 := cell_of_row w3 (w.heap.size + 1) 0 _ _ _ hz
           have g30 := frozen_of_row w3 (w.heap.size + 1) 0 _ _ hz
           have z31 := cell_of_row w3 (w.heap.size + 1) 1 _ _ _ hz
           have g31 := frozen_of_row w3 (w.heap.size + 1) 1 _ _ hz
           have z32 := cell_of_row w3 (w.heap.size + 1) 2 _ _ _ hz
           have g32 := frozen_of_row w3 (w.heap.size + 1) 2 _ _ hz
           have z33 := cell_of_row w3 (w.heap.size + 1) 3 _ _ _ hz
           have g33 := frozen_of_row w3 (w.heap.size + 1) 3 _ _ hz
           have z34 := cell_of_row w3 (w.heap.size + 1) 4 _ _ _ hz
           have g34 := frozen_of_row w3 (w.heap.size + 1) 4 _ _ hz
           clear hown3 hg3 hat3 hn3)
        | (refine step_append_any _ rfl (.const (Value.slice none 0 0)) (.tmp 15) 24 rfl _ 4 ib0 (.bool false) 1 1 Try.underlying24 ibh ibz0 ibz1 ibz2 rfl (by omega) (.slice none 0 0) 0 [] rfl own_zero0 _ p.a4 d.rv.length p.c4 (d.rv.map Value.bool) rfl ((H.out.s4.below HB.out).reads) (Bo_one _) (by unfold maxLen; omega) (by omega) (Nat.le_refl _) ?_
           intro v4 w4 hown4 hg4 hat4
           have hn4 := Below.grown (Below.refl _ _) hg4 (Nat.le_refl _) (by intro k hk; simp [Value.ownBlock] at hk)
           have hss4 := hn4.size
           simp only [Nat.zero_add, List.nil_append] at hown4
           have hlt4 := Lib.hid hown4.lt
           obtain ⟨q4, e4, rfl, _, _, _⟩ := own_slice hown4
           have Ho4 := Lib.hid hown4
           try (replace Ho1 := Lib.hid (ownsRow_below Ho1.out hn4))
           try (replace Ho2 := Lib.hid (ownsRow_below Ho2.out hn4))
           try (replace Ho3 := Lib.hid (ownsRow_below Ho3.out hn4))
           replace HB := Lib.hid (HB.out.trans (hn4.mono (Nat.le_trans (Nat.le_add_right _ 2) hsz)))
           have hrn := (hn4.block _ (Nat.lt_of_lt_of_le (Nat.lt_of_lt_of_le (Nat.lt_succ_self _) (Nat.le_succ _)) hsz)).trans hr
           have hzn := (hn4.block _ (Nat.lt_of_lt_of_le (Nat.lt_succ_self _) hsz)).trans hz
           replace hsz := Nat.le_trans hsz hn4.size
           clear hr hz
           have hr := hrn
           have hz := hzn
           clear hrn hzn
           have c40 := cell_of_row w4 w.heap.size 0 _ _ _ hr
           have c41 := cell_of_row w4 w.heap.size 1 _ _ _ hr
           have c42 := cell_of_row w4 w.heap.size 2 _ _ _ hr
           have c43 := cell_of_row w4 w.heap.size 3 _ _ _ hr
           have c44 := cell_of_row w4 w.heap.size 4 _ _ _ hr
           have z40 := cell_of_row w4 (w.heap.size + 1) 0 _ _ _ hz
           have g40 := frozen_of_row w4 (w.heap.size + 1) 0 _ _ hz
           have z41 := cell_of_row w4 (w.heap.size + 1) 1 _ _ _ hz
           have g41 := frozen_of_row w4 (w.heap.size + 1) 1 _ _ hz
           have z42 := cell_of_row w4 (w.heap.size + 1) 2 _ _ _ hz
           have g42 := frozen_of_row w4 (w.heap.size + 1) 2 _ _ hz
           have z43 := cell_of_row w4 (w.heap.size + 1) 3 _ _ _ hz
           have g43 := frozen_of_row w4 (w.heap.size + 1) 3 _ _ hz
           have z44 := cell_of_row w4 (w.heap.size + 1) 4 _ _ _ hz
           have g44 := frozen_of_row w4 (w.heap.size + 1) 4 _ _ hz
           clear hown4 hg4 hat4 hn4)
        | fail)
  all_goals go_wp2
  all_goals
    have hz5 := box5 (x := .int .i64 d.st) (y := .slice q1 d.se.length e1) (z := .slice q2 d.sd.length e2) (u := .slice q3 d.sx.length e3) (v := .slice q4 d.rv.length e4) hz
    have y0 := cell_of_row _ _ 0 _ _ _ hz5
    have y1 := cell_of_row _ _ 1 _ _ _ hz5
    have y2 := cell_of_row _ _ 2 _ _ _ hz5
    have y3 := cell_of_row _ _ 3 _ _ _ hz5
    have y4 := cell_of_row _ _ 4 _ _ _ hz5
    refine bodyPost_ret (v := .agg #[.int .i64 d.st, .slice q1 d.se.length e1, .slice q2 d.sd.length e2, .slice q3 d.sx.length e3, .slice q4 d.rv.length e4]) (by simp only [results, Try.results45, go_sem, y0, y1, y2, y3, y4]; first | rfl | simp [go_sem, *]) rfl ?_
    have L1 := hlt1.out
    have L2 := hlt2.out
    have L3 := hlt3.out
    have L4 := hlt4.out
    refine ⟨⟨q1, e1, q2, e2, q3, e3, q4, e4⟩, rfl, ⟨?_, ?_, ?_, ?_, ?_, ?_, ?_, ?_, ?_, ?_⟩, box5_below HB.out (Nat.le_succ _)⟩
    · exact own_only (own_rebase Ho1.out (by omega)) box5_only (fun e => by have := L1 _ e; omega)
    · exact own_only (own_rebase Ho2.out (by omega)) box5_only (fun e => by have := L2 _ e; omega)
    · exact own_only (own_rebase Ho3.out (by omega)) box5_only (fun e => by have := L3 _ e; omega)
    · exact own_only (own_rebase Ho4.out (by omega)) box5_only (fun e => by have := L4 _ e; omega)
    · first | exact Apart.of L1 L2 (by omega) | exact (Apart.of L2 L1 (by omega)).symm
    · first | exact Apart.of L1 L3 (by omega) | exact (Apart.of L3 L1 (by omega)).symm
    · first | exact Apart.of L1 L4 (by omega) | exact (Apart.of L4 L1 (by omega)).symm
    · first | exact Apart.of L2 L3 (by omega) | exact (Apart.of L3 L2 (by omega)).symm
    · first | exact Apart.of L2 L4 (by omega) | exact (Apart.of L4 L2 (by omega)).symm
    · first | exact Apart.of L3 L4 (by omega) | exact (Apart.of L4 L3 (by omega)).symm
end Go.Proofs.Ytbkkmgofjhaaoaa
