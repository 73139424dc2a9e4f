import Derived.Test.YtfmkmhhghmdakaaGreatDoorRT
namespace Go.Proofs.YtfmkmhhghmdakaaGreatDoor
open Go.RowKit Go.Shelf
set_option linter.unusedVariables false
set_option linter.unusedSimpArgs false
set_option maxHeartbeats 64000000
set_option maxRecDepth 100000
def EvPost (w : World) (P1 P2 P3 : List R4) (e : Ending) (w' : World) : Prop :=
  ∃ (v1 v2 v3 : LV), e = .returned (.tuple #[.agg #[.slice v1.a P1.length v1.c, .slice v2.a P2.length v2.c, .slice v3.a P3.length v3.c], .int .i64 0]) ∧ w'.ownsRow w.heap.size 68 4 (.slice v1.a P1.length v1.c) P1.length (rCells P1) ∧ w'.ownsRow w.heap.size 68 4 (.slice v2.a P2.length v2.c) P2.length (rCells P2) ∧ w'.ownsRow w.heap.size 68 4 (.slice v3.a P3.length v3.c) P3.length (rCells P3) ∧ Below w.heap.size w w'
theorem evalW_1 (A : Option Addr) (n c : Nat) (C : Option Addr) (k cc : Nat) (B : Option Addr) (m d : Nat) (y pc cr sch t : Int) (Q1 Q2 Q3 : List R4) (w : World) (hq1 : Q1.length ≤ 90) (hq2 : Q2.length ≤ 90) (hq3 : Q3.length ≤ 90) (hc1 : ¬ Q1.length < Q2.length) (hc2 : ¬ Q1.length < Q3.length)
    (HQ : ∀ W, Below w.heap.size w W → Calls Tryz.prog 107 #[.agg #[.int .i64 y, .slice C k cc, .slice A n c, .slice none 0 0, .int .i64 0, .int .i64 pc, .slice B m d, .int .i64 cr, .int .i64 sch, .slice B m d], sameV t] W (SqPost W Q1 Q2 Q3))
    (HV : ∀ W, Below w.heap.size w W → Calls Tryz.prog 106 #[.agg #[.int .i64 y, .slice C k cc, .slice A n c, .slice none 0 0, .int .i64 0, .int .i64 pc, .slice B m d, .int .i64 cr, .int .i64 sch, .slice B m d], sameV t] W fun e w' => e = .returned (.int .i64 0) ∧ Below W.heap.size W w') :
    Calls Tryz.prog 35 #[sameV t, .agg #[.int .i64 pc, .slice B m d, .int .i64 cr, .int .i64 sch], .int .i64 y, .slice C k cc, .slice A n c, .slice none 0 0, .int .i64 0] w (EvPost w Q1 Q2 Q3) := by
  have eg : ∀ args w, (callFunc 108 args).run Tryz.prog w = .ok (.enter 108 args) w := enters_of Tryz.func108 (by kernel_rfl) rfl
  have HK := Lib.hid HV
  have HE := Lib.hid HQ
  have a1 : (Q1.length : Int) ≤ 90 := by omega
  have a2 : (Q2.length : Int) ≤ 90 := by omega
  have a3 : (Q3.length : Int) ≤ 90 := by omega
  have i11 : ¬ (120 : Int) < (Q1.length : Int) := by omega
  have n11 : ¬ 120 < Q1.length := by omega
  have ic1 : ¬ (Q1.length : Int) < (Q2.length : Int) := by omega
  have ic2 : ¬ (Q1.length : Int) < (Q3.length : Int) := by omega
  have i22 : ¬ (120 : Int) < (Q2.length : Int) := by omega
  have n22 : ¬ 120 < Q2.length := by omega
  have i33 : ¬ (120 : Int) < (Q3.length : Int) := by omega
  have n33 : ¬ 120 < Q3.length := by omega
  clear HQ HV
  go_enter Tryz.func35, Tryz.ntmps35
  go_upto_region 2 with fail
  obtain ⟨w1, hw1⟩ : ∃ w1 : World, w1 = (((w.alloc (.cells #[.int .i64 6, .int .i64 t, .int .i64 0, .slice none 0 0] 84)).alloc (.cells #[.int .i64 pc, .slice B m d, .int .i64 cr, .int .i64 sch] 35)).alloc (.cells #[.slice none 0 0, .slice none 0 0, .slice none 0 0] 79)).alloc (.cells #[.int .i64 y, .slice C k cc, .slice A n c, .slice none 0 0, .int .i64 0, .int .i64 pc, .slice B m d, .int .i64 cr, .int .i64 sch, .slice B m d] 163) := ⟨_, rfl⟩
  rw [← hw1]
  have hq1' : w1.heap[w.heap.size]? = some (.cells #[.int .i64 6, .int .i64 t, .int .i64 0, .slice none 0 0] 84 (0, 0)) := by rw [hw1]; exact (Below.heap_alloc _ _ _ (by simp; omega)).trans ((Below.heap_alloc _ _ _ (by simp; omega)).trans ((Below.heap_alloc _ _ _ (by simp)).trans (heap_alloc_new w _)))
  have Hz1 : Hid (w1.heap[w.heap.size + 1 + 1]? = some (.cells #[.slice none 0 0, .slice none 0 0, .slice none 0 0] 79 (0, 0))) := Lib.hid (by rw [hw1]; have h3 := heap_alloc_new ((w.alloc (.cells #[.int .i64 6, .int .i64 t, .int .i64 0, .slice none 0 0] 84)).alloc (.cells #[.int .i64 pc, .slice B m d, .int .i64 cr, .int .i64 sch] 35)) (.cells #[.slice none 0 0, .slice none 0 0, .slice none 0 0] 79); exact (Below.heap_alloc _ _ _ (by simp)).trans (by simpa using h3))
  have hr1 : w1.heap[w.heap.size + 1 + 1 + 1]? = some (.cells #[.int .i64 y, .slice C k cc, .slice A n c, .slice none 0 0, .int .i64 0, .int .i64 pc, .slice B m d, .int .i64 cr, .int .i64 sch, .slice B m d] 163 (0, 0)) := by rw [hw1]; have h3 := heap_alloc_new (((w.alloc (.cells #[.int .i64 6, .int .i64 t, .int .i64 0, .slice none 0 0] 84)).alloc (.cells #[.int .i64 pc, .slice B m d, .int .i64 cr, .int .i64 sch] 35)).alloc (.cells #[.slice none 0 0, .slice none 0 0, .slice none 0 0] 79)) (.cells #[.int .i64 y, .slice C k cc, .slice A n c, .slice none 0 0, .int .i64 0, .int .i64 pc, .slice B m d, .int .i64 cr, .int .i64 sch, .slice B m d] 163); simpa using h3
  have Hr1 := Lib.hid hr1
  have Hq1 := Lib.hid hq1'
  have Hb1 : Hid (Below w.heap.size w w1) := Lib.hid (by rw [hw1]; exact gBel)
  have hs1 : w.heap.size + 1 + 1 + 1 < w1.heap.size := by rw [hw1]; simp
  clear hw1
  have c0 := cell_of_row _ _ 0 _ _ _ hr1; have c1 := cell_of_row _ _ 1 _ _ _ hr1; have c2 := cell_of_row _ _ 2 _ _ _ hr1; have c3 := cell_of_row _ _ 3 _ _ _ hr1; have c4 := cell_of_row _ _ 4 _ _ _ hr1; have c5 := cell_of_row _ _ 5 _ _ _ hr1; have c6 := cell_of_row _ _ 6 _ _ _ hr1; have c7 := cell_of_row _ _ 7 _ _ _ hr1; have c8 := cell_of_row _ _ 8 _ _ _ hr1; have c9 := cell_of_row _ _ 9 _ _ _ hr1
  have r0 := cell_of_row _ _ 0 _ _ _ hq1'; have r1 := cell_of_row _ _ 1 _ _ _ hq1'; have r2 := cell_of_row _ _ 2 _ _ _ hq1'; have r3 := cell_of_row _ _ 3 _ _ _ hq1'
  clear hr1 hq1'
  go_upto_region 5 with (first
    | (go_at_call 106
       refine (HK.out _ Hb1.out).mono ?_
       rintro e w2 ⟨rfl, hb2⟩
       have hr2 := (hb2.block (w.heap.size + 1 + 1 + 1) hs1).trans Hr1.out
       have hq2' := (hb2.block w.heap.size (by omega)).trans Hq1.out
       have Hz2 := Lib.hid ((hb2.block (w.heap.size + 1 + 1) (by omega)).trans Hz1.out)
       have Hb2 := Lib.hid (Hb1.out.trans (hb2.mono Hb1.out.size))
       have hs2 : w.heap.size + 1 + 1 + 1 < w2.heap.size := Nat.lt_of_lt_of_le hs1 hb2.size
       clear hb2 c0 c1 c2 c3 c4 c5 c6 c7 c8 c9 r0 r1 r2 r3)
    | fail)
  have c0 := cell_of_row _ _ 0 _ _ _ hr2; have c1 := cell_of_row _ _ 1 _ _ _ hr2; have c2 := cell_of_row _ _ 2 _ _ _ hr2; have c3 := cell_of_row _ _ 3 _ _ _ hr2; have c4 := cell_of_row _ _ 4 _ _ _ hr2; have c5 := cell_of_row _ _ 5 _ _ _ hr2; have c6 := cell_of_row _ _ 6 _ _ _ hr2; have c7 := cell_of_row _ _ 7 _ _ _ hr2; have c8 := cell_of_row _ _ 8 _ _ _ hr2; have c9 := cell_of_row _ _ 9 _ _ _ hr2
  have r0 := cell_of_row _ _ 0 _ _ _ hq2'; have r1 := cell_of_row _ _ 1 _ _ _ hq2'; have r2 := cell_of_row _ _ 2 _ _ _ hq2'; have r3 := cell_of_row _ _ 3 _ _ _ hq2'
  clear hr2 hq2'
  go_upto_region 6 with (first
    | (go_at_call 107
       refine (HE.out _ Hb2.out).mono ?_
       rintro e w3 ⟨v1, v2, v3, rfl, hown1, hown2, hown3, hb3⟩
       have Hown1 := Lib.hid (own_rebase (base' := w.heap.size + 1 + 1 + 1) hown1 (by omega))
       have Hown2 := Lib.hid (own_rebase (base' := w.heap.size + 1 + 1 + 1) hown2 (by omega))
       have Hown3 := Lib.hid (own_rebase (base' := w.heap.size + 1 + 1 + 1) hown3 (by omega))
       have Hz3 := Lib.hid ((hb3.block (w.heap.size + 1 + 1) (by omega)).trans Hz2.out)
       have Hb3 := Lib.hid (Hb2.out.trans (hb3.mono Hb2.out.size))
       have hs3 : w.heap.size + 1 + 1 + 1 < w3.heap.size := Nat.lt_of_lt_of_le hs2 hb3.size
       clear hown1 hown2 hown3 hb3 c0 c1 c2 c3 c4 c5 c6 c7 c8 c9 r0 r1 r2 r3)
    | fail)
  obtain ⟨w4, hw4⟩ : ∃ w4 : World, w4 = w3.alloc (.cells #[.slice v1.a Q1.length v1.c, .slice v2.a Q2.length v2.c, .slice v3.a Q3.length v3.c] 166) := ⟨_, rfl⟩
  rw [← hw4]
  have hr4 : w4.heap[w3.heap.size]? = some (.cells #[.slice v1.a Q1.length v1.c, .slice v2.a Q2.length v2.c, .slice v3.a Q3.length v3.c] 166 (0, 0)) := by rw [hw4]; exact heap_alloc_new w3 _
  have Hb34 : Hid (Below w3.heap.size w3 w4) := Lib.hid (by rw [hw4]; exact gBel)
  have hs4 : w3.heap.size < w4.heap.size := by rw [hw4]; simp
  have Hr4 := Lib.hid hr4
  have Hz4 := Lib.hid ((Hb34.out.block (w.heap.size + 1 + 1) (by omega)).trans Hz3.out)
  have Hb4 := Lib.hid (Hb3.out.trans (Hb34.out.mono Hb3.out.size))
  have HS1 := Lib.hid (SlR.ofR (ownsRow_below Hown1.out Hb34.out))
  have HS2 := Lib.hid (SlR.ofR (ownsRow_below Hown2.out Hb34.out))
  have HS3 := Lib.hid (SlR.ofR (ownsRow_below Hown3.out Hb34.out))
  obtain ⟨T, hT⟩ : ∃ T, w3.heap.size = T := ⟨_, rfl⟩
  rw [hT] at hr4 Hr4 hs4 ⊢
  have hTw : w.heap.size + 1 + 1 + 1 < T := by omega
  have q0 := cell_of_row _ _ 0 _ _ _ hr4
  have q1 := cell_of_row _ _ 1 _ _ _ hr4
  have q2 := cell_of_row _ _ 2 _ _ _ hr4
  clear hw4 hr4 Hown1 Hown2 Hown3 Hb34 hT Hz3 Hb3 hs3
  have HO1 := Lib.hid (fun W (h : Below w4.heap.size w4 W) => ofTm_any v1.a Q1.length v1.c Q1 W (HS1.out.below h) (by omega))
  have HO2 := Lib.hid (fun W (h : Below w4.heap.size w4 W) => ofTm_any v2.a Q2.length v2.c Q2 W (HS2.out.below h) (by omega))
  have HO3 := Lib.hid (fun W (h : Below w4.heap.size w4 W) => ofTm_any v3.a Q3.length v3.c Q3 W (HS3.out.below h) (by omega))
  clear HS1 HS2 HS3
  go_upto_region 9 with fail
  go_region_held3 (fun w' => w'.cell? ⟨T, 0, none⟩ = some (.slice v1.a Q1.length v1.c) ∧ w'.cell? ⟨T, 1, none⟩ = some (.slice v2.a Q2.length v2.c) ∧ w'.cell? ⟨T, 2, none⟩ = some (.slice v3.a Q3.length v3.c))
    (first | ((repeat' apply And.intro) <;> (first | go_keep | exact (sq3_cell (by omega) (by omega)).trans (by assumption)); done) | go_keep)
    (first
      | (go_at_call_of 108 (Value.slice v1.a Q1.length v1.c)
         refine (HO1.out _ (gBel)).mono ?_
         rintro e w5 ⟨u1, rfl, hown, hb⟩
         have Hb5 : Hid (Below w4.heap.size w4 w5) := Lib.hid (show Below w4.heap.size w4 w5 from (by have hbq := hb; exact gBelo))
         have hs5 : T < w5.heap.size := Nat.lt_of_lt_of_le hs4 Hb5.out.size
         have Hown5 := Lib.hid (own_rebase (base' := w.heap.size + 1 + 1 + 1) (base := w4.heap.size) hown (by omega))
         have Hr5 := Lib.hid ((Hb5.out.block T hs4).trans Hr4.out)
         have hz5 := (Hb5.out.block (w.heap.size + 1 + 1) (by omega)).trans Hz4.out
         have Hz5 := Lib.hid hz5
         have q10 := cell_of_row _ _ 0 _ _ _ Hr5.out
         have q11 := cell_of_row _ _ 1 _ _ _ Hr5.out
         have q12 := cell_of_row _ _ 2 _ _ _ Hr5.out
         clear hown hb hz5)
      | (go_at_call_of 108 (Value.slice v2.a Q2.length v2.c)
         refine (HO2.out _ (Hb5.out.trans (Below.mono gBel Hb5.out.size))).mono ?_
         rintro e w6 ⟨u2, rfl, hown, hb⟩
         have Hb6 : Hid (Below w5.heap.size w5 w6) := Lib.hid (show Below w5.heap.size w5 w6 from (by have hbq := hb; exact gBelo))
         have hs6 : T < w6.heap.size := Nat.lt_of_lt_of_le hs5 Hb6.out.size
         have Hown6 := Lib.hid (own_rebase (base' := w.heap.size + 1 + 1 + 1) (base := w5.heap.size) hown (by omega))
         have Hr6 := Lib.hid ((Hb6.out.block T hs5).trans Hr5.out)
         have hz6 := (Hb6.out.block (w.heap.size + 1 + 1) (by omega)).trans Hz5.out
         have Hz6 := Lib.hid hz6
         have q20 := cell_of_row _ _ 0 _ _ _ Hr6.out
         have q21 := cell_of_row _ _ 1 _ _ _ Hr6.out
         have q22 := cell_of_row _ _ 2 _ _ _ Hr6.out
         clear hown hb hz6)
      | (go_at_call_of 108 (Value.slice v3.a Q3.length v3.c)
         refine (HO3.out _ (Hb5.out.trans (Below.mono (Hb6.out.trans (Below.mono gBel Hb6.out.size)) Hb5.out.size))).mono ?_
         rintro e w7 ⟨u3, rfl, hown, hb⟩
         have Hb7 : Hid (Below w6.heap.size w6 w7) := Lib.hid (show Below w6.heap.size w6 w7 from (by have hbq := hb; exact gBelo))
         have hs7 : T < w7.heap.size := Nat.lt_of_lt_of_le hs6 Hb7.out.size
         have Hown7 := Lib.hid (own_rebase (base' := w.heap.size + 1 + 1 + 1) (base := w6.heap.size) hown (by omega))
         have Hr7 := Lib.hid ((Hb7.out.block T hs6).trans Hr6.out)
         have hz7 := (Hb7.out.block (w.heap.size + 1 + 1) (by omega)).trans Hz6.out
         have Hz7 := Lib.hid hz7
         have q30 := cell_of_row _ _ 0 _ _ _ Hr7.out
         have q31 := cell_of_row _ _ 1 _ _ _ Hr7.out
         have q32 := cell_of_row _ _ 2 _ _ _ Hr7.out
         have z0 := cell_of_row _ _ 0 _ _ _ hz7
         have z1 := cell_of_row _ _ 1 _ _ _ hz7
         have z2 := cell_of_row _ _ 2 _ _ _ hz7
         have g0 := frozen_of_row _ _ 0 _ _ hz7
         have g1 := frozen_of_row _ _ 1 _ _ hz7
         have g2 := frozen_of_row _ _ 2 _ _ hz7
         clear hown hb hz7)
      | fail)
  all_goals go_wp2
  all_goals have hz9 := sq3 (x := .slice u1.a Q1.length u1.c) (y := .slice u2.a Q2.length u2.c) (z := .slice u3.a Q3.length u3.c) Hz7.out
  all_goals have y0 := cell_of_row _ _ 0 _ _ _ hz9
  all_goals have y1 := cell_of_row _ _ 1 _ _ _ hz9
  all_goals have y2 := cell_of_row _ _ 2 _ _ _ hz9
  all_goals refine bodyPost_ret (v := .tuple #[.agg #[.slice u1.a Q1.length u1.c, .slice u2.a Q2.length u2.c, .slice u3.a Q3.length u3.c], .int .i64 0]) (by simp only [results, Tryz.results35, go_sem, y0, y1, y2]; first | rfl | simp [go_sem, *]) rfl ?_
  all_goals exact ⟨u1, u2, u3, rfl, own_rebase (own_other (ownsRow_below (ownsRow_below Hown5.out Hb6.out) Hb7.out) sq3_only (fun k hk e => by injection e with e; have := own_base Hown5.out k hk; omega)) (by omega), own_rebase (own_other (ownsRow_below Hown6.out Hb7.out) sq3_only (fun k hk e => by injection e with e; have := own_base Hown6.out k hk; omega)) (by omega), own_rebase (own_other Hown7.out sq3_only (fun k hk e => by injection e with e; have := own_base Hown7.out k hk; omega)) (by omega), sq3_below (Hb4.out.trans ((Hb5.out.trans ((Hb6.out.trans (Hb7.out.mono Hb6.out.size)).mono Hb5.out.size)).mono Hb4.out.size)) (by omega)⟩
theorem evalW_2 (A : Option Addr) (n c : Nat) (C : Option Addr) (k cc : Nat) (B : Option Addr) (m d : Nat) (y pc cr sch t : Int) (Q1 Q2 Q3 : List R4) (w : World) (hq1 : Q1.length ≤ 90) (hq2 : Q2.length ≤ 90) (hq3 : Q3.length ≤ 90) (hc1 : ¬ Q1.length < Q2.length) (hc2 : Q1.length < Q3.length)
    (HQ : ∀ W, Below w.heap.size w W → Calls Tryz.prog 107 #[.agg #[.int .i64 y, .slice C k cc, .slice A n c, .slice none 0 0, .int .i64 0, .int .i64 pc, .slice B m d, .int .i64 cr, .int .i64 sch, .slice B m d], sameV t] W (SqPost W Q1 Q2 Q3))
    (HV : ∀ W, Below w.heap.size w W → Calls Tryz.prog 106 #[.agg #[.int .i64 y, .slice C k cc, .slice A n c, .slice none 0 0, .int .i64 0, .int .i64 pc, .slice B m d, .int .i64 cr, .int .i64 sch, .slice B m d], sameV t] W fun e w' => e = .returned (.int .i64 0) ∧ Below W.heap.size W w') :
    Calls Tryz.prog 35 #[sameV t, .agg #[.int .i64 pc, .slice B m d, .int .i64 cr, .int .i64 sch], .int .i64 y, .slice C k cc, .slice A n c, .slice none 0 0, .int .i64 0] w (EvPost w Q1 Q2 Q3) := by
  have eg : ∀ args w, (callFunc 108 args).run Tryz.prog w = .ok (.enter 108 args) w := enters_of Tryz.func108 (by kernel_rfl) rfl
  have HK := Lib.hid HV
  have HE := Lib.hid HQ
  have a1 : (Q1.length : Int) ≤ 90 := by omega
  have a2 : (Q2.length : Int) ≤ 90 := by omega
  have a3 : (Q3.length : Int) ≤ 90 := by omega
  have i11 : ¬ (120 : Int) < (Q1.length : Int) := by omega
  have n11 : ¬ 120 < Q1.length := by omega
  have ic1 : ¬ (Q1.length : Int) < (Q2.length : Int) := by omega
  have ic2 : (Q1.length : Int) < (Q3.length : Int) := by omega
  have i22 : ¬ (120 : Int) < (Q2.length : Int) := by omega
  have n22 : ¬ 120 < Q2.length := by omega
  have i33 : ¬ (120 : Int) < (Q3.length : Int) := by omega
  have n33 : ¬ 120 < Q3.length := by omega
  clear HQ HV
  go_enter Tryz.func35, Tryz.ntmps35
  go_upto_region 2 with fail
  obtain ⟨w1, hw1⟩ : ∃ w1 : World, w1 = (((w.alloc (.cells #[.int .i64 6, .int .i64 t, .int .i64 0, .slice none 0 0] 84)).alloc (.cells #[.int .i64 pc, .slice B m d, .int .i64 cr, .int .i64 sch] 35)).alloc (.cells #[.slice none 0 0, .slice none 0 0, .slice none 0 0] 79)).alloc (.cells #[.int .i64 y, .slice C k cc, .slice A n c, .slice none 0 0, .int .i64 0, .int .i64 pc, .slice B m d, .int .i64 cr, .int .i64 sch, .slice B m d] 163) := ⟨_, rfl⟩
  rw [← hw1]
  have hq1' : w1.heap[w.heap.size]? = some (.cells #[.int .i64 6, .int .i64 t, .int .i64 0, .slice none 0 0] 84 (0, 0)) := by rw [hw1]; exact (Below.heap_alloc _ _ _ (by simp; omega)).trans ((Below.heap_alloc _ _ _ (by simp; omega)).trans ((Below.heap_alloc _ _ _ (by simp)).trans (heap_alloc_new w _)))
  have Hz1 : Hid (w1.heap[w.heap.size + 1 + 1]? = some (.cells #[.slice none 0 0, .slice none 0 0, .slice none 0 0] 79 (0, 0))) := Lib.hid (by rw [hw1]; have h3 := heap_alloc_new ((w.alloc (.cells #[.int .i64 6, .int .i64 t, .int .i64 0, .slice none 0 0] 84)).alloc (.cells #[.int .i64 pc, .slice B m d, .int .i64 cr, .int .i64 sch] 35)) (.cells #[.slice none 0 0, .slice none 0 0, .slice none 0 0] 79); exact (Below.heap_alloc _ _ _ (by simp)).trans (by simpa using h3))
  have hr1 : w1.heap[w.heap.size + 1 + 1 + 1]? = some (.cells #[.int .i64 y, .slice C k cc, .slice A n c, .slice none 0 0, .int .i64 0, .int .i64 pc, .slice B m d, .int .i64 cr, .int .i64 sch, .slice B m d] 163 (0, 0)) := by rw [hw1]; have h3 := heap_alloc_new (((w.alloc (.cells #[.int .i64 6, .int .i64 t, .int .i64 0, .slice none 0 0] 84)).alloc (.cells #[.int .i64 pc, .slice B m d, .int .i64 cr, .int .i64 sch] 35)).alloc (.cells #[.slice none 0 0, .slice none 0 0, .slice none 0 0] 79)) (.cells #[.int .i64 y, .slice C k cc, .slice A n c, .slice none 0 0, .int .i64 0, .int .i64 pc, .slice B m d, .int .i64 cr, .int .i64 sch, .slice B m d] 163); simpa using h3
  have Hr1 := Lib.hid hr1
  have Hq1 := Lib.hid hq1'
  have Hb1 : Hid (Below w.heap.size w w1) := Lib.hid (by rw [hw1]; exact gBel)
  have hs1 : w.heap.size + 1 + 1 + 1 < w1.heap.size := by rw [hw1]; simp
  clear hw1
  have c0 := cell_of_row _ _ 0 _ _ _ hr1; have c1 := cell_of_row _ _ 1 _ _ _ hr1; have c2 := cell_of_row _ _ 2 _ _ _ hr1; have c3 := cell_of_row _ _ 3 _ _ _ hr1; have c4 := cell_of_row _ _ 4 _ _ _ hr1; have c5 := cell_of_row _ _ 5 _ _ _ hr1; have c6 := cell_of_row _ _ 6 _ _ _ hr1; have c7 := cell_of_row _ _ 7 _ _ _ hr1; have c8 := cell_of_row _ _ 8 _ _ _ hr1; have c9 := cell_of_row _ _ 9 _ _ _ hr1
  have r0 := cell_of_row _ _ 0 _ _ _ hq1'; have r1 := cell_of_row _ _ 1 _ _ _ hq1'; have r2 := cell_of_row _ _ 2 _ _ _ hq1'; have r3 := cell_of_row _ _ 3 _ _ _ hq1'
  clear hr1 hq1'
  go_upto_region 5 with (first
    | (go_at_call 106
       refine (HK.out _ Hb1.out).mono ?_
       rintro e w2 ⟨rfl, hb2⟩
       have hr2 := (hb2.block (w.heap.size + 1 + 1 + 1) hs1).trans Hr1.out
       have hq2' := (hb2.block w.heap.size (by omega)).trans Hq1.out
       have Hz2 := Lib.hid ((hb2.block (w.heap.size + 1 + 1) (by omega)).trans Hz1.out)
       have Hb2 := Lib.hid (Hb1.out.trans (hb2.mono Hb1.out.size))
       have hs2 : w.heap.size + 1 + 1 + 1 < w2.heap.size := Nat.lt_of_lt_of_le hs1 hb2.size
       clear hb2 c0 c1 c2 c3 c4 c5 c6 c7 c8 c9 r0 r1 r2 r3)
    | fail)
  have c0 := cell_of_row _ _ 0 _ _ _ hr2; have c1 := cell_of_row _ _ 1 _ _ _ hr2; have c2 := cell_of_row _ _ 2 _ _ _ hr2; have c3 := cell_of_row _ _ 3 _ _ _ hr2; have c4 := cell_of_row _ _ 4 _ _ _ hr2; have c5 := cell_of_row _ _ 5 _ _ _ hr2; have c6 := cell_of_row _ _ 6 _ _ _ hr2; have c7 := cell_of_row _ _ 7 _ _ _ hr2; have c8 := cell_of_row _ _ 8 _ _ _ hr2; have c9 := cell_of_row _ _ 9 _ _ _ hr2
  have r0 := cell_of_row _ _ 0 _ _ _ hq2'; have r1 := cell_of_row _ _ 1 _ _ _ hq2'; have r2 := cell_of_row _ _ 2 _ _ _ hq2'; have r3 := cell_of_row _ _ 3 _ _ _ hq2'
  clear hr2 hq2'
  go_upto_region 6 with (first
    | (go_at_call 107
       refine (HE.out _ Hb2.out).mono ?_
       rintro e w3 ⟨v1, v2, v3, rfl, hown1, hown2, hown3, hb3⟩
       have Hown1 := Lib.hid (own_rebase (base' := w.heap.size + 1 + 1 + 1) hown1 (by omega))
       have Hown2 := Lib.hid (own_rebase (base' := w.heap.size + 1 + 1 + 1) hown2 (by omega))
       have Hown3 := Lib.hid (own_rebase (base' := w.heap.size + 1 + 1 + 1) hown3 (by omega))
       have Hz3 := Lib.hid ((hb3.block (w.heap.size + 1 + 1) (by omega)).trans Hz2.out)
       have Hb3 := Lib.hid (Hb2.out.trans (hb3.mono Hb2.out.size))
       have hs3 : w.heap.size + 1 + 1 + 1 < w3.heap.size := Nat.lt_of_lt_of_le hs2 hb3.size
       clear hown1 hown2 hown3 hb3 c0 c1 c2 c3 c4 c5 c6 c7 c8 c9 r0 r1 r2 r3)
    | fail)
  obtain ⟨w4, hw4⟩ : ∃ w4 : World, w4 = w3.alloc (.cells #[.slice v1.a Q1.length v1.c, .slice v2.a Q2.length v2.c, .slice v3.a Q3.length v3.c] 166) := ⟨_, rfl⟩
  rw [← hw4]
  have hr4 : w4.heap[w3.heap.size]? = some (.cells #[.slice v1.a Q1.length v1.c, .slice v2.a Q2.length v2.c, .slice v3.a Q3.length v3.c] 166 (0, 0)) := by rw [hw4]; exact heap_alloc_new w3 _
  have Hb34 : Hid (Below w3.heap.size w3 w4) := Lib.hid (by rw [hw4]; exact gBel)
  have hs4 : w3.heap.size < w4.heap.size := by rw [hw4]; simp
  have Hr4 := Lib.hid hr4
  have Hz4 := Lib.hid ((Hb34.out.block (w.heap.size + 1 + 1) (by omega)).trans Hz3.out)
  have Hb4 := Lib.hid (Hb3.out.trans (Hb34.out.mono Hb3.out.size))
  have HS1 := Lib.hid (SlR.ofR (ownsRow_below Hown1.out Hb34.out))
  have HS2 := Lib.hid (SlR.ofR (ownsRow_below Hown2.out Hb34.out))
  have HS3 := Lib.hid (SlR.ofR (ownsRow_below Hown3.out Hb34.out))
  obtain ⟨T, hT⟩ : ∃ T, w3.heap.size = T := ⟨_, rfl⟩
  rw [hT] at hr4 Hr4 hs4 ⊢
  have hTw : w.heap.size + 1 + 1 + 1 < T := by omega
  have q0 := cell_of_row _ _ 0 _ _ _ hr4
  have q1 := cell_of_row _ _ 1 _ _ _ hr4
  have q2 := cell_of_row _ _ 2 _ _ _ hr4
  clear hw4 hr4 Hown1 Hown2 Hown3 Hb34 hT Hz3 Hb3 hs3
  have HO1 := Lib.hid (fun W (h : Below w4.heap.size w4 W) => ofTm_any v1.a Q1.length v1.c Q1 W (HS1.out.below h) (by omega))
  have HO2 := Lib.hid (fun W (h : Below w4.heap.size w4 W) => ofTm_any v2.a Q2.length v2.c Q2 W (HS2.out.below h) (by omega))
  have HO3 := Lib.hid (fun W (h : Below w4.heap.size w4 W) => ofTm_any v3.a Q3.length v3.c Q3 W (HS3.out.below h) (by omega))
  clear HS1 HS2 HS3
  go_upto_region 9 with fail
  go_region_held3 (fun w' => w'.cell? ⟨T, 0, none⟩ = some (.slice v1.a Q1.length v1.c) ∧ w'.cell? ⟨T, 1, none⟩ = some (.slice v2.a Q2.length v2.c) ∧ w'.cell? ⟨T, 2, none⟩ = some (.slice v3.a Q3.length v3.c))
    (first | ((repeat' apply And.intro) <;> (first | go_keep | exact (sq3_cell (by omega) (by omega)).trans (by assumption)); done) | go_keep)
    (first
      | (go_at_call_of 108 (Value.slice v1.a Q1.length v1.c)
         refine (HO1.out _ (gBel)).mono ?_
         rintro e w5 ⟨u1, rfl, hown, hb⟩
         have Hb5 : Hid (Below w4.heap.size w4 w5) := Lib.hid (show Below w4.heap.size w4 w5 from (by have hbq := hb; exact gBelo))
         have hs5 : T < w5.heap.size := Nat.lt_of_lt_of_le hs4 Hb5.out.size
         have Hown5 := Lib.hid (own_rebase (base' := w.heap.size + 1 + 1 + 1) (base := w4.heap.size) hown (by omega))
         have Hr5 := Lib.hid ((Hb5.out.block T hs4).trans Hr4.out)
         have hz5 := (Hb5.out.block (w.heap.size + 1 + 1) (by omega)).trans Hz4.out
         have Hz5 := Lib.hid hz5
         have q10 := cell_of_row _ _ 0 _ _ _ Hr5.out
         have q11 := cell_of_row _ _ 1 _ _ _ Hr5.out
         have q12 := cell_of_row _ _ 2 _ _ _ Hr5.out
         clear hown hb hz5)
      | (go_at_call_of 108 (Value.slice v2.a Q2.length v2.c)
         refine (HO2.out _ (Hb5.out.trans (Below.mono gBel Hb5.out.size))).mono ?_
         rintro e w6 ⟨u2, rfl, hown, hb⟩
         have Hb6 : Hid (Below w5.heap.size w5 w6) := Lib.hid (show Below w5.heap.size w5 w6 from (by have hbq := hb; exact gBelo))
         have hs6 : T < w6.heap.size := Nat.lt_of_lt_of_le hs5 Hb6.out.size
         have Hown6 := Lib.hid (own_rebase (base' := w.heap.size + 1 + 1 + 1) (base := w5.heap.size) hown (by omega))
         have Hr6 := Lib.hid ((Hb6.out.block T hs5).trans Hr5.out)
         have hz6 := (Hb6.out.block (w.heap.size + 1 + 1) (by omega)).trans Hz5.out
         have Hz6 := Lib.hid hz6
         have q20 := cell_of_row _ _ 0 _ _ _ Hr6.out
         have q21 := cell_of_row _ _ 1 _ _ _ Hr6.out
         have q22 := cell_of_row _ _ 2 _ _ _ Hr6.out
         clear hown hb hz6)
      | (go_at_call_of 108 (Value.slice v3.a Q3.length v3.c)
         refine (HO3.out _ (Hb5.out.trans (Below.mono (Hb6.out.trans (Below.mono gBel Hb6.out.size)) Hb5.out.size))).mono ?_
         rintro e w7 ⟨u3, rfl, hown, hb⟩
         have Hb7 : Hid (Below w6.heap.size w6 w7) := Lib.hid (show Below w6.heap.size w6 w7 from (by have hbq := hb; exact gBelo))
         have hs7 : T < w7.heap.size := Nat.lt_of_lt_of_le hs6 Hb7.out.size
         have Hown7 := Lib.hid (own_rebase (base' := w.heap.size + 1 + 1 + 1) (base := w6.heap.size) hown (by omega))
         have Hr7 := Lib.hid ((Hb7.out.block T hs6).trans Hr6.out)
         have hz7 := (Hb7.out.block (w.heap.size + 1 + 1) (by omega)).trans Hz6.out
         have Hz7 := Lib.hid hz7
         have q30 := cell_of_row _ _ 0 _ _ _ Hr7.out
         have q31 := cell_of_row _ _ 1 _ _ _ Hr7.out
         have q32 := cell_of_row _ _ 2 _ _ _ Hr7.out
         have z0 := cell_of_row _ _ 0 _ _ _ hz7
         have z1 := cell_of_row _ _ 1 _ _ _ hz7
         have z2 := cell_of_row _ _ 2 _ _ _ hz7
         have g0 := frozen_of_row _ _ 0 _ _ hz7
         have g1 := frozen_of_row _ _ 1 _ _ hz7
         have g2 := frozen_of_row _ _ 2 _ _ hz7
         clear hown hb hz7)
      | fail)
  all_goals go_wp2
  all_goals have hz9 := sq3 (x := .slice u1.a Q1.length u1.c) (y := .slice u2.a Q2.length u2.c) (z := .slice u3.a Q3.length u3.c) Hz7.out
  all_goals have y0 := cell_of_row _ _ 0 _ _ _ hz9
  all_goals have y1 := cell_of_row _ _ 1 _ _ _ hz9
  all_goals have y2 := cell_of_row _ _ 2 _ _ _ hz9
  all_goals refine bodyPost_ret (v := .tuple #[.agg #[.slice u1.a Q1.length u1.c, .slice u2.a Q2.length u2.c, .slice u3.a Q3.length u3.c], .int .i64 0]) (by simp only [results, Tryz.results35, go_sem, y0, y1, y2]; first | rfl | simp [go_sem, *]) rfl ?_
  all_goals exact ⟨u1, u2, u3, rfl, own_rebase (own_other (ownsRow_below (ownsRow_below Hown5.out Hb6.out) Hb7.out) sq3_only (fun k hk e => by injection e with e; have := own_base Hown5.out k hk; omega)) (by omega), own_rebase (own_other (ownsRow_below Hown6.out Hb7.out) sq3_only (fun k hk e => by injection e with e; have := own_base Hown6.out k hk; omega)) (by omega), own_rebase (own_other Hown7.out sq3_only (fun k hk e => by injection e with e; have := own_base Hown7.out k hk; omega)) (by omega), sq3_below (Hb4.out.trans ((Hb5.out.trans ((Hb6.out.trans (Hb7.out.mono Hb6.out.size)).mono Hb5.out.size)).mono Hb4.out.size)) (by omega)⟩
theorem evalW_3 (A : Option Addr) (n c : Nat) (C : Option Addr) (k cc : Nat) (B : Option Addr) (m d : Nat) (y pc cr sch t : Int) (Q1 Q2 Q3 : List R4) (w : World) (hq1 : Q1.length ≤ 90) (hq2 : Q2.length ≤ 90) (hq3 : Q3.length ≤ 90) (hc1 : Q1.length < Q2.length) (hc2 : ¬ Q2.length < Q3.length)
    (HQ : ∀ W, Below w.heap.size w W → Calls Tryz.prog 107 #[.agg #[.int .i64 y, .slice C k cc, .slice A n c, .slice none 0 0, .int .i64 0, .int .i64 pc, .slice B m d, .int .i64 cr, .int .i64 sch, .slice B m d], sameV t] W (SqPost W Q1 Q2 Q3))
    (HV : ∀ W, Below w.heap.size w W → Calls Tryz.prog 106 #[.agg #[.int .i64 y, .slice C k cc, .slice A n c, .slice none 0 0, .int .i64 0, .int .i64 pc, .slice B m d, .int .i64 cr, .int .i64 sch, .slice B m d], sameV t] W fun e w' => e = .returned (.int .i64 0) ∧ Below W.heap.size W w') :
    Calls Tryz.prog 35 #[sameV t, .agg #[.int .i64 pc, .slice B m d, .int .i64 cr, .int .i64 sch], .int .i64 y, .slice C k cc, .slice A n c, .slice none 0 0, .int .i64 0] w (EvPost w Q1 Q2 Q3) := by
  have eg : ∀ args w, (callFunc 108 args).run Tryz.prog w = .ok (.enter 108 args) w := enters_of Tryz.func108 (by kernel_rfl) rfl
  have HK := Lib.hid HV
  have HE := Lib.hid HQ
  have a1 : (Q1.length : Int) ≤ 90 := by omega
  have a2 : (Q2.length : Int) ≤ 90 := by omega
  have a3 : (Q3.length : Int) ≤ 90 := by omega
  have i11 : ¬ (120 : Int) < (Q1.length : Int) := by omega
  have n11 : ¬ 120 < Q1.length := by omega
  have ic1 : (Q1.length : Int) < (Q2.length : Int) := by omega
  have ic2 : ¬ (Q2.length : Int) < (Q3.length : Int) := by omega
  have i22 : ¬ (120 : Int) < (Q2.length : Int) := by omega
  have n22 : ¬ 120 < Q2.length := by omega
  have i33 : ¬ (120 : Int) < (Q3.length : Int) := by omega
  have n33 : ¬ 120 < Q3.length := by omega
  clear HQ HV
  go_enter Tryz.func35, Tryz.ntmps35
  go_upto_region 2 with fail
  obtain ⟨w1, hw1⟩ : ∃ w1 : World, w1 = (((w.alloc (.cells #[.int .i64 6, .int .i64 t, .int .i64 0, .slice none 0 0] 84)).alloc (.cells #[.int .i64 pc, .slice B m d, .int .i64 cr, .int .i64 sch] 35)).alloc (.cells #[.slice none 0 0, .slice none 0 0, .slice none 0 0] 79)).alloc (.cells #[.int .i64 y, .slice C k cc, .slice A n c, .slice none 0 0, .int .i64 0, .int .i64 pc, .slice B m d, .int .i64 cr, .int .i64 sch, .slice B m d] 163) := ⟨_, rfl⟩
  rw [← hw1]
  have hq1' : w1.heap[w.heap.size]? = some (.cells #[.int .i64 6, .int .i64 t, .int .i64 0, .slice none 0 0] 84 (0, 0)) := by rw [hw1]; exact (Below.heap_alloc _ _ _ (by simp; omega)).trans ((Below.heap_alloc _ _ _ (by simp; omega)).trans ((Below.heap_alloc _ _ _ (by simp)).trans (heap_alloc_new w _)))
  have Hz1 : Hid (w1.heap[w.heap.size + 1 + 1]? = some (.cells #[.slice none 0 0, .slice none 0 0, .slice none 0 0] 79 (0, 0))) := Lib.hid (by rw [hw1]; have h3 := heap_alloc_new ((w.alloc (.cells #[.int .i64 6, .int .i64 t, .int .i64 0, .slice none 0 0] 84)).alloc (.cells #[.int .i64 pc, .slice B m d, .int .i64 cr, .int .i64 sch] 35)) (.cells #[.slice none 0 0, .slice none 0 0, .slice none 0 0] 79); exact (Below.heap_alloc _ _ _ (by simp)).trans (by simpa using h3))
  have hr1 : w1.heap[w.heap.size + 1 + 1 + 1]? = some (.cells #[.int .i64 y, .slice C k cc, .slice A n c, .slice none 0 0, .int .i64 0, .int .i64 pc, .slice B m d, .int .i64 cr, .int .i64 sch, .slice B m d] 163 (0, 0)) := by rw [hw1]; have h3 := heap_alloc_new (((w.alloc (.cells #[.int .i64 6, .int .i64 t, .int .i64 0, .slice none 0 0] 84)).alloc (.cells #[.int .i64 pc, .slice B m d, .int .i64 cr, .int .i64 sch] 35)).alloc (.cells #[.slice none 0 0, .slice none 0 0, .slice none 0 0] 79)) (.cells #[.int .i64 y, .slice C k cc, .slice A n c, .slice none 0 0, .int .i64 0, .int .i64 pc, .slice B m d, .int .i64 cr, .int .i64 sch, .slice B m d] 163); simpa using h3
  have Hr1 := Lib.hid hr1
  have Hq1 := Lib.hid hq1'
  have Hb1 : Hid (Below w.heap.size w w1) := Lib.hid (by rw [hw1]; exact gBel)
  have hs1 : w.heap.size + 1 + 1 + 1 < w1.heap.size := by rw [hw1]; simp
  clear hw1
  have c0 := cell_of_row _ _ 0 _ _ _ hr1; have c1 := cell_of_row _ _ 1 _ _ _ hr1; have c2 := cell_of_row _ _ 2 _ _ _ hr1; have c3 := cell_of_row _ _ 3 _ _ _ hr1; have c4 := cell_of_row _ _ 4 _ _ _ hr1; have c5 := cell_of_row _ _ 5 _ _ _ hr1; have c6 := cell_of_row _ _ 6 _ _ _ hr1; have c7 := cell_of_row _ _ 7 _ _ _ hr1; have c8 := cell_of_row _ _ 8 _ _ _ hr1; have c9 := cell_of_row _ _ 9 _ _ _ hr1
  have r0 := cell_of_row _ _ 0 _ _ _ hq1'; have r1 := cell_of_row _ _ 1 _ _ _ hq1'; have r2 := cell_of_row _ _ 2 _ _ _ hq1'; have r3 := cell_of_row _ _ 3 _ _ _ hq1'
  clear hr1 hq1'
  go_upto_region 5 with (first
    | (go_at_call 106
       refine (HK.out _ Hb1.out).mono ?_
       rintro e w2 ⟨rfl, hb2⟩
       have hr2 := (hb2.block (w.heap.size + 1 + 1 + 1) hs1).trans Hr1.out
       have hq2' := (hb2.block w.heap.size (by omega)).trans Hq1.out
       have Hz2 := Lib.hid ((hb2.block (w.heap.size + 1 + 1) (by omega)).trans Hz1.out)
       have Hb2 := Lib.hid (Hb1.out.trans (hb2.mono Hb1.out.size))
       have hs2 : w.heap.size + 1 + 1 + 1 < w2.heap.size := Nat.lt_of_lt_of_le hs1 hb2.size
       clear hb2 c0 c1 c2 c3 c4 c5 c6 c7 c8 c9 r0 r1 r2 r3)
    | fail)
  have c0 := cell_of_row _ _ 0 _ _ _ hr2; have c1 := cell_of_row _ _ 1 _ _ _ hr2; have c2 := cell_of_row _ _ 2 _ _ _ hr2; have c3 := cell_of_row _ _ 3 _ _ _ hr2; have c4 := cell_of_row _ _ 4 _ _ _ hr2; have c5 := cell_of_row _ _ 5 _ _ _ hr2; have c6 := cell_of_row _ _ 6 _ _ _ hr2; have c7 := cell_of_row _ _ 7 _ _ _ hr2; have c8 := cell_of_row _ _ 8 _ _ _ hr2; have c9 := cell_of_row _ _ 9 _ _ _ hr2
  have r0 := cell_of_row _ _ 0 _ _ _ hq2'; have r1 := cell_of_row _ _ 1 _ _ _ hq2'; have r2 := cell_of_row _ _ 2 _ _ _ hq2'; have r3 := cell_of_row _ _ 3 _ _ _ hq2'
  clear hr2 hq2'
  go_upto_region 6 with (first
    | (go_at_call 107
       refine (HE.out _ Hb2.out).mono ?_
       rintro e w3 ⟨v1, v2, v3, rfl, hown1, hown2, hown3, hb3⟩
       have Hown1 := Lib.hid (own_rebase (base' := w.heap.size + 1 + 1 + 1) hown1 (by omega))
       have Hown2 := Lib.hid (own_rebase (base' := w.heap.size + 1 + 1 + 1) hown2 (by omega))
       have Hown3 := Lib.hid (own_rebase (base' := w.heap.size + 1 + 1 + 1) hown3 (by omega))
       have Hz3 := Lib.hid ((hb3.block (w.heap.size + 1 + 1) (by omega)).trans Hz2.out)
       have Hb3 := Lib.hid (Hb2.out.trans (hb3.mono Hb2.out.size))
       have hs3 : w.heap.size + 1 + 1 + 1 < w3.heap.size := Nat.lt_of_lt_of_le hs2 hb3.size
       clear hown1 hown2 hown3 hb3 c0 c1 c2 c3 c4 c5 c6 c7 c8 c9 r0 r1 r2 r3)
    | fail)
  obtain ⟨w4, hw4⟩ : ∃ w4 : World, w4 = w3.alloc (.cells #[.slice v1.a Q1.length v1.c, .slice v2.a Q2.length v2.c, .slice v3.a Q3.length v3.c] 166) := ⟨_, rfl⟩
  rw [← hw4]
  have hr4 : w4.heap[w3.heap.size]? = some (.cells #[.slice v1.a Q1.length v1.c, .slice v2.a Q2.length v2.c, .slice v3.a Q3.length v3.c] 166 (0, 0)) := by rw [hw4]; exact heap_alloc_new w3 _
  have Hb34 : Hid (Below w3.heap.size w3 w4) := Lib.hid (by rw [hw4]; exact gBel)
  have hs4 : w3.heap.size < w4.heap.size := by rw [hw4]; simp
  have Hr4 := Lib.hid hr4
  have Hz4 := Lib.hid ((Hb34.out.block (w.heap.size + 1 + 1) (by omega)).trans Hz3.out)
  have Hb4 := Lib.hid (Hb3.out.trans (Hb34.out.mono Hb3.out.size))
  have HS1 := Lib.hid (SlR.ofR (ownsRow_below Hown1.out Hb34.out))
  have HS2 := Lib.hid (SlR.ofR (ownsRow_below Hown2.out Hb34.out))
  have HS3 := Lib.hid (SlR.ofR (ownsRow_below Hown3.out Hb34.out))
  obtain ⟨T, hT⟩ : ∃ T, w3.heap.size = T := ⟨_, rfl⟩
  rw [hT] at hr4 Hr4 hs4 ⊢
  have hTw : w.heap.size + 1 + 1 + 1 < T := by omega
  have q0 := cell_of_row _ _ 0 _ _ _ hr4
  have q1 := cell_of_row _ _ 1 _ _ _ hr4
  have q2 := cell_of_row _ _ 2 _ _ _ hr4
  clear hw4 hr4 Hown1 Hown2 Hown3 Hb34 hT Hz3 Hb3 hs3
  have HO1 := Lib.hid (fun W (h : Below w4.heap.size w4 W) => ofTm_any v1.a Q1.length v1.c Q1 W (HS1.out.below h) (by omega))
  have HO2 := Lib.hid (fun W (h : Below w4.heap.size w4 W) => ofTm_any v2.a Q2.length v2.c Q2 W (HS2.out.below h) (by omega))
  have HO3 := Lib.hid (fun W (h : Below w4.heap.size w4 W) => ofTm_any v3.a Q3.length v3.c Q3 W (HS3.out.below h) (by omega))
  clear HS1 HS2 HS3
  go_upto_region 9 with fail
  go_region_held3 (fun w' => w'.cell? ⟨T, 0, none⟩ = some (.slice v1.a Q1.length v1.c) ∧ w'.cell? ⟨T, 1, none⟩ = some (.slice v2.a Q2.length v2.c) ∧ w'.cell? ⟨T, 2, none⟩ = some (.slice v3.a Q3.length v3.c))
    (first | ((repeat' apply And.intro) <;> (first | go_keep | exact (sq3_cell (by omega) (by omega)).trans (by assumption)); done) | go_keep)
    (first
      | (go_at_call_of 108 (Value.slice v1.a Q1.length v1.c)
         refine (HO1.out _ (gBel)).mono ?_
         rintro e w5 ⟨u1, rfl, hown, hb⟩
         have Hb5 : Hid (Below w4.heap.size w4 w5) := Lib.hid (show Below w4.heap.size w4 w5 from (by have hbq := hb; exact gBelo))
         have hs5 : T < w5.heap.size := Nat.lt_of_lt_of_le hs4 Hb5.out.size
         have Hown5 := Lib.hid (own_rebase (base' := w.heap.size + 1 + 1 + 1) (base := w4.heap.size) hown (by omega))
         have Hr5 := Lib.hid ((Hb5.out.block T hs4).trans Hr4.out)
         have hz5 := (Hb5.out.block (w.heap.size + 1 + 1) (by omega)).trans Hz4.out
         have Hz5 := Lib.hid hz5
         have q10 := cell_of_row _ _ 0 _ _ _ Hr5.out
         have q11 := cell_of_row _ _ 1 _ _ _ Hr5.out
         have q12 := cell_of_row _ _ 2 _ _ _ Hr5.out
         clear hown hb hz5)
      | (go_at_call_of 108 (Value.slice v2.a Q2.length v2.c)
         refine (HO2.out _ (Hb5.out.trans (Below.mono gBel Hb5.out.size))).mono ?_
         rintro e w6 ⟨u2, rfl, hown, hb⟩
         have Hb6 : Hid (Below w5.heap.size w5 w6) := Lib.hid (show Below w5.heap.size w5 w6 from (by have hbq := hb; exact gBelo))
         have hs6 : T < w6.heap.size := Nat.lt_of_lt_of_le hs5 Hb6.out.size
         have Hown6 := Lib.hid (own_rebase (base' := w.heap.size + 1 + 1 + 1) (base := w5.heap.size) hown (by omega))
         have Hr6 := Lib.hid ((Hb6.out.block T hs5).trans Hr5.out)
         have hz6 := (Hb6.out.block (w.heap.size + 1 + 1) (by omega)).trans Hz5.out
         have Hz6 := Lib.hid hz6
         have q20 := cell_of_row _ _ 0 _ _ _ Hr6.out
         have q21 := cell_of_row _ _ 1 _ _ _ Hr6.out
         have q22 := cell_of_row _ _ 2 _ _ _ Hr6.out
         clear hown hb hz6)
      | (go_at_call_of 108 (Value.slice v3.a Q3.length v3.c)
         refine (HO3.out _ (Hb5.out.trans (Below.mono (Hb6.out.trans (Below.mono gBel Hb6.out.size)) Hb5.out.size))).mono ?_
         rintro e w7 ⟨u3, rfl, hown, hb⟩
         have Hb7 : Hid (Below w6.heap.size w6 w7) := Lib.hid (show Below w6.heap.size w6 w7 from (by have hbq := hb; exact gBelo))
         have hs7 : T < w7.heap.size := Nat.lt_of_lt_of_le hs6 Hb7.out.size
         have Hown7 := Lib.hid (own_rebase (base' := w.heap.size + 1 + 1 + 1) (base := w6.heap.size) hown (by omega))
         have Hr7 := Lib.hid ((Hb7.out.block T hs6).trans Hr6.out)
         have hz7 := (Hb7.out.block (w.heap.size + 1 + 1) (by omega)).trans Hz6.out
         have Hz7 := Lib.hid hz7
         have q30 := cell_of_row _ _ 0 _ _ _ Hr7.out
         have q31 := cell_of_row _ _ 1 _ _ _ Hr7.out
         have q32 := cell_of_row _ _ 2 _ _ _ Hr7.out
         have z0 := cell_of_row _ _ 0 _ _ _ hz7
         have z1 := cell_of_row _ _ 1 _ _ _ hz7
         have z2 := cell_of_row _ _ 2 _ _ _ hz7
         have g0 := frozen_of_row _ _ 0 _ _ hz7
         have g1 := frozen_of_row _ _ 1 _ _ hz7
         have g2 := frozen_of_row _ _ 2 _ _ hz7
         clear hown hb hz7)
      | fail)
  all_goals go_wp2
  all_goals have hz9 := sq3 (x := .slice u1.a Q1.length u1.c) (y := .slice u2.a Q2.length u2.c) (z := .slice u3.a Q3.length u3.c) Hz7.out
  all_goals have y0 := cell_of_row _ _ 0 _ _ _ hz9
  all_goals have y1 := cell_of_row _ _ 1 _ _ _ hz9
  all_goals have y2 := cell_of_row _ _ 2 _ _ _ hz9
  all_goals refine bodyPost_ret (v := .tuple #[.agg #[.slice u1.a Q1.length u1.c, .slice u2.a Q2.length u2.c, .slice u3.a Q3.length u3.c], .int .i64 0]) (by simp only [results, Tryz.results35, go_sem, y0, y1, y2]; first | rfl | simp [go_sem, *]) rfl ?_
  all_goals exact ⟨u1, u2, u3, rfl, own_rebase (own_other (ownsRow_below (ownsRow_below Hown5.out Hb6.out) Hb7.out) sq3_only (fun k hk e => by injection e with e; have := own_base Hown5.out k hk; omega)) (by omega), own_rebase (own_other (ownsRow_below Hown6.out Hb7.out) sq3_only (fun k hk e => by injection e with e; have := own_base Hown6.out k hk; omega)) (by omega), own_rebase (own_other Hown7.out sq3_only (fun k hk e => by injection e with e; have := own_base Hown7.out k hk; omega)) (by omega), sq3_below (Hb4.out.trans ((Hb5.out.trans ((Hb6.out.trans (Hb7.out.mono Hb6.out.size)).mono Hb5.out.size)).mono Hb4.out.size)) (by omega)⟩
theorem evalW_4 (A : Option Addr) (n c : Nat) (C : Option Addr) (k cc : Nat) (B : Option Addr) (m d : Nat) (y pc cr sch t : Int) (Q1 Q2 Q3 : List R4) (w : World) (hq1 : Q1.length ≤ 90) (hq2 : Q2.length ≤ 90) (hq3 : Q3.length ≤ 90) (hc1 : Q1.length < Q2.length) (hc2 : Q2.length < Q3.length)
    (HQ : ∀ W, Below w.heap.size w W → Calls Tryz.prog 107 #[.agg #[.int .i64 y, .slice C k cc, .slice A n c, .slice none 0 0, .int .i64 0, .int .i64 pc, .slice B m d, .int .i64 cr, .int .i64 sch, .slice B m d], sameV t] W (SqPost W Q1 Q2 Q3))
    (HV : ∀ W, Below w.heap.size w W → Calls Tryz.prog 106 #[.agg #[.int .i64 y, .slice C k cc, .slice A n c, .slice none 0 0, .int .i64 0, .int .i64 pc, .slice B m d, .int .i64 cr, .int .i64 sch, .slice B m d], sameV t] W fun e w' => e = .returned (.int .i64 0) ∧ Below W.heap.size W w') :
    Calls Tryz.prog 35 #[sameV t, .agg #[.int .i64 pc, .slice B m d, .int .i64 cr, .int .i64 sch], .int .i64 y, .slice C k cc, .slice A n c, .slice none 0 0, .int .i64 0] w (EvPost w Q1 Q2 Q3) := by
  have eg : ∀ args w, (callFunc 108 args).run Tryz.prog w = .ok (.enter 108 args) w := enters_of Tryz.func108 (by kernel_rfl) rfl
  have HK := Lib.hid HV
  have HE := Lib.hid HQ
  have a1 : (Q1.length : Int) ≤ 90 := by omega
  have a2 : (Q2.length : Int) ≤ 90 := by omega
  have a3 : (Q3.length : Int) ≤ 90 := by omega
  have i11 : ¬ (120 : Int) < (Q1.length : Int) := by omega
  have n11 : ¬ 120 < Q1.length := by omega
  have ic1 : (Q1.length : Int) < (Q2.length : Int) := by omega
  have ic2 : (Q2.length : Int) < (Q3.length : Int) := by omega
  have i22 : ¬ (120 : Int) < (Q2.length : Int) := by omega
  have n22 : ¬ 120 < Q2.length := by omega
  have i33 : ¬ (120 : Int) < (Q3.length : Int) := by omega
  have n33 : ¬ 120 < Q3.length := by omega
  clear HQ HV
  go_enter Tryz.func35, Tryz.ntmps35
  go_upto_region 2 with fail
  obtain ⟨w1, hw1⟩ : ∃ w1 : World, w1 = (((w.alloc (.cells #[.int .i64 6, .int .i64 t, .int .i64 0, .slice none 0 0] 84)).alloc (.cells #[.int .i64 pc, .slice B m d, .int .i64 cr, .int .i64 sch] 35)).alloc (.cells #[.slice none 0 0, .slice none 0 0, .slice none 0 0] 79)).alloc (.cells #[.int .i64 y, .slice C k cc, .slice A n c, .slice none 0 0, .int .i64 0, .int .i64 pc, .slice B m d, .int .i64 cr, .int .i64 sch, .slice B m d] 163) := ⟨_, rfl⟩
  rw [← hw1]
  have hq1' : w1.heap[w.heap.size]? = some (.cells #[.int .i64 6, .int .i64 t, .int .i64 0, .slice none 0 0] 84 (0, 0)) := by rw [hw1]; exact (Below.heap_alloc _ _ _ (by simp; omega)).trans ((Below.heap_alloc _ _ _ (by simp; omega)).trans ((Below.heap_alloc _ _ _ (by simp)).trans (heap_alloc_new w _)))
  have Hz1 : Hid (w1.heap[w.heap.size + 1 + 1]? = some (.cells #[.slice none 0 0, .slice none 0 0, .slice none 0 0] 79 (0, 0))) := Lib.hid (by rw [hw1]; have h3 := heap_alloc_new ((w.alloc (.cells #[.int .i64 6, .int .i64 t, .int .i64 0, .slice none 0 0] 84)).alloc (.cells #[.int .i64 pc, .slice B m d, .int .i64 cr, .int .i64 sch] 35)) (.cells #[.slice none 0 0, .slice none 0 0, .slice none 0 0] 79); exact (Below.heap_alloc _ _ _ (by simp)).trans (by simpa using h3))
  have hr1 : w1.heap[w.heap.size + 1 + 1 + 1]? = some (.cells #[.int .i64 y, .slice C k cc, .slice A n c, .slice none 0 0, .int .i64 0, .int .i64 pc, .slice B m d, .int .i64 cr, .int .i64 sch, .slice B m d] 163 (0, 0)) := by rw [hw1]; have h3 := heap_alloc_new (((w.alloc (.cells #[.int .i64 6, .int .i64 t, .int .i64 0, .slice none 0 0] 84)).alloc (.cells #[.int .i64 pc, .slice B m d, .int .i64 cr, .int .i64 sch] 35)).alloc (.cells #[.slice none 0 0, .slice none 0 0, .slice none 0 0] 79)) (.cells #[.int .i64 y, .slice C k cc, .slice A n c, .slice none 0 0, .int .i64 0, .int .i64 pc, .slice B m d, .int .i64 cr, .int .i64 sch, .slice B m d] 163); simpa using h3
  have Hr1 := Lib.hid hr1
  have Hq1 := Lib.hid hq1'
  have Hb1 : Hid (Below w.heap.size w w1) := Lib.hid (by rw [hw1]; exact gBel)
  have hs1 : w.heap.size + 1 + 1 + 1 < w1.heap.size := by rw [hw1]; simp
  clear hw1
  have c0 := cell_of_row _ _ 0 _ _ _ hr1; have c1 := cell_of_row _ _ 1 _ _ _ hr1; have c2 := cell_of_row _ _ 2 _ _ _ hr1; have c3 := cell_of_row _ _ 3 _ _ _ hr1; have c4 := cell_of_row _ _ 4 _ _ _ hr1; have c5 := cell_of_row _ _ 5 _ _ _ hr1; have c6 := cell_of_row _ _ 6 _ _ _ hr1; have c7 := cell_of_row _ _ 7 _ _ _ hr1; have c8 := cell_of_row _ _ 8 _ _ _ hr1; have c9 := cell_of_row _ _ 9 _ _ _ hr1
  have r0 := cell_of_row _ _ 0 _ _ _ hq1'; have r1 := cell_of_row _ _ 1 _ _ _ hq1'; have r2 := cell_of_row _ _ 2 _ _ _ hq1'; have r3 := cell_of_row _ _ 3 _ _ _ hq1'
  clear hr1 hq1'
  go_upto_region 5 with (first
    | (go_at_call 106
       refine (HK.out _ Hb1.out).mono ?_
       rintro e w2 ⟨rfl, hb2⟩
       have hr2 := (hb2.block (w.heap.size + 1 + 1 + 1) hs1).trans Hr1.out
       have hq2' := (hb2.block w.heap.size (by omega)).trans Hq1.out
       have Hz2 := Lib.hid ((hb2.block (w.heap.size + 1 + 1) (by omega)).trans Hz1.out)
       have Hb2 := Lib.hid (Hb1.out.trans (hb2.mono Hb1.out.size))
       have hs2 : w.heap.size + 1 + 1 + 1 < w2.heap.size := Nat.lt_of_lt_of_le hs1 hb2.size
       clear hb2 c0 c1 c2 c3 c4 c5 c6 c7 c8 c9 r0 r1 r2 r3)
    | fail)
  have c0 := cell_of_row _ _ 0 _ _ _ hr2; have c1 := cell_of_row _ _ 1 _ _ _ hr2; have c2 := cell_of_row _ _ 2 _ _ _ hr2; have c3 := cell_of_row _ _ 3 _ _ _ hr2; have c4 := cell_of_row _ _ 4 _ _ _ hr2; have c5 := cell_of_row _ _ 5 _ _ _ hr2; have c6 := cell_of_row _ _ 6 _ _ _ hr2; have c7 := cell_of_row _ _ 7 _ _ _ hr2; have c8 := cell_of_row _ _ 8 _ _ _ hr2; have c9 := cell_of_row _ _ 9 _ _ _ hr2
  have r0 := cell_of_row _ _ 0 _ _ _ hq2'; have r1 := cell_of_row _ _ 1 _ _ _ hq2'; have r2 := cell_of_row _ _ 2 _ _ _ hq2'; have r3 := cell_of_row _ _ 3 _ _ _ hq2'
  clear hr2 hq2'
  go_upto_region 6 with (first
    | (go_at_call 107
       refine (HE.out _ Hb2.out).mono ?_
       rintro e w3 ⟨v1, v2, v3, rfl, hown1, hown2, hown3, hb3⟩
       have Hown1 := Lib.hid (own_rebase (base' := w.heap.size + 1 + 1 + 1) hown1 (by omega))
       have Hown2 := Lib.hid (own_rebase (base' := w.heap.size + 1 + 1 + 1) hown2 (by omega))
       have Hown3 := Lib.hid (own_rebase (base' := w.heap.size + 1 + 1 + 1) hown3 (by omega))
       have Hz3 := Lib.hid ((hb3.block (w.heap.size + 1 + 1) (by omega)).trans Hz2.out)
       have Hb3 := Lib.hid (Hb2.out.trans (hb3.mono Hb2.out.size))
       have hs3 : w.heap.size + 1 + 1 + 1 < w3.heap.size := Nat.lt_of_lt_of_le hs2 hb3.size
       clear hown1 hown2 hown3 hb3 c0 c1 c2 c3 c4 c5 c6 c7 c8 c9 r0 r1 r2 r3)
    | fail)
  obtain ⟨w4, hw4⟩ : ∃ w4 : World, w4 = w3.alloc (.cells #[.slice v1.a Q1.length v1.c, .slice v2.a Q2.length v2.c, .slice v3.a Q3.length v3.c] 166) := ⟨_, rfl⟩
  rw [← hw4]
  have hr4 : w4.heap[w3.heap.size]? = some (.cells #[.slice v1.a Q1.length v1.c, .slice v2.a Q2.length v2.c, .slice v3.a Q3.length v3.c] 166 (0, 0)) := by rw [hw4]; exact heap_alloc_new w3 _
  have Hb34 : Hid (Below w3.heap.size w3 w4) := Lib.hid (by rw [hw4]; exact gBel)
  have hs4 : w3.heap.size < w4.heap.size := by rw [hw4]; simp
  have Hr4 := Lib.hid hr4
  have Hz4 := Lib.hid ((Hb34.out.block (w.heap.size + 1 + 1) (by omega)).trans Hz3.out)
  have Hb4 := Lib.hid (Hb3.out.trans (Hb34.out.mono Hb3.out.size))
  have HS1 := Lib.hid (SlR.ofR (ownsRow_below Hown1.out Hb34.out))
  have HS2 := Lib.hid (SlR.ofR (ownsRow_below Hown2.out Hb34.out))
  have HS3 := Lib.hid (SlR.ofR (ownsRow_below Hown3.out Hb34.out))
  obtain ⟨T, hT⟩ : ∃ T, w3.heap.size = T := ⟨_, rfl⟩
  rw [hT] at hr4 Hr4 hs4 ⊢
  have hTw : w.heap.size + 1 + 1 + 1 < T := by omega
  have q0 := cell_of_row _ _ 0 _ _ _ hr4
  have q1 := cell_of_row _ _ 1 _ _ _ hr4
  have q2 := cell_of_row _ _ 2 _ _ _ hr4
  clear hw4 hr4 Hown1 Hown2 Hown3 Hb34 hT Hz3 Hb3 hs3
  have HO1 := Lib.hid (fun W (h : Below w4.heap.size w4 W) => ofTm_any v1.a Q1.length v1.c Q1 W (HS1.out.below h) (by omega))
  have HO2 := Lib.hid (fun W (h : Below w4.heap.size w4 W) => ofTm_any v2.a Q2.length v2.c Q2 W (HS2.out.below h) (by omega))
  have HO3 := Lib.hid (fun W (h : Below w4.heap.size w4 W) => ofTm_any v3.a Q3.length v3.c Q3 W (HS3.out.below h) (by omega))
  clear HS1 HS2 HS3
  go_upto_region 9 with fail
  go_region_held3 (fun w' => w'.cell? ⟨T, 0, none⟩ = some (.slice v1.a Q1.length v1.c) ∧ w'.cell? ⟨T, 1, none⟩ = some (.slice v2.a Q2.length v2.c) ∧ w'.cell? ⟨T, 2, none⟩ = some (.slice v3.a Q3.length v3.c))
    (first | ((repeat' apply And.intro) <;> (first | go_keep | exact (sq3_cell (by omega) (by omega)).trans (by assumption)); done) | go_keep)
    (first
      | (go_at_call_of 108 (Value.slice v1.a Q1.length v1.c)
         refine (HO1.out _ (gBel)).mono ?_
         rintro e w5 ⟨u1, rfl, hown, hb⟩
         have Hb5 : Hid (Below w4.heap.size w4 w5) := Lib.hid (show Below w4.heap.size w4 w5 from (by have hbq := hb; exact gBelo))
         have hs5 : T < w5.heap.size := Nat.lt_of_lt_of_le hs4 Hb5.out.size
         have Hown5 := Lib.hid (own_rebase (base' := w.heap.size + 1 + 1 + 1) (base := w4.heap.size) hown (by omega))
         have Hr5 := Lib.hid ((Hb5.out.block T hs4).trans Hr4.out)
         have hz5 := (Hb5.out.block (w.heap.size + 1 + 1) (by omega)).trans Hz4.out
         have Hz5 := Lib.hid hz5
         have q10 := cell_of_row _ _ 0 _ _ _ Hr5.out
         have q11 := cell_of_row _ _ 1 _ _ _ Hr5.out
         have q12 := cell_of_row _ _ 2 _ _ _ Hr5.out
         clear hown hb hz5)
      | (go_at_call_of 108 (Value.slice v2.a Q2.length v2.c)
         refine (HO2.out _ (Hb5.out.trans (Below.mono gBel Hb5.out.size))).mono ?_
         rintro e w6 ⟨u2, rfl, hown, hb⟩
         have Hb6 : Hid (Below w5.heap.size w5 w6) := Lib.hid (show Below w5.heap.size w5 w6 from (by have hbq := hb; exact gBelo))
         have hs6 : T < w6.heap.size := Nat.lt_of_lt_of_le hs5 Hb6.out.size
         have Hown6 := Lib.hid (own_rebase (base' := w.heap.size + 1 + 1 + 1) (base := w5.heap.size) hown (by omega))
         have Hr6 := Lib.hid ((Hb6.out.block T hs5).trans Hr5.out)
         have hz6 := (Hb6.out.block (w.heap.size + 1 + 1) (by omega)).trans Hz5.out
         have Hz6 := Lib.hid hz6
         have q20 := cell_of_row _ _ 0 _ _ _ Hr6.out
         have q21 := cell_of_row _ _ 1 _ _ _ Hr6.out
         have q22 := cell_of_row _ _ 2 _ _ _ Hr6.out
         clear hown hb hz6)
      | (go_at_call_of 108 (Value.slice v3.a Q3.length v3.c)
         refine (HO3.out _ (Hb5.out.trans (Below.mono (Hb6.out.trans (Below.mono gBel Hb6.out.size)) Hb5.out.size))).mono ?_
         rintro e w7 ⟨u3, rfl, hown, hb⟩
         have Hb7 : Hid (Below w6.heap.size w6 w7) := Lib.hid (show Below w6.heap.size w6 w7 from (by have hbq := hb; exact gBelo))
         have hs7 : T < w7.heap.size := Nat.lt_of_lt_of_le hs6 Hb7.out.size
         have Hown7 := Lib.hid (own_rebase (base' := w.heap.size + 1 + 1 + 1) (base := w6.heap.size) hown (by omega))
         have Hr7 := Lib.hid ((Hb7.out.block T hs6).trans Hr6.out)
         have hz7 := (Hb7.out.block (w.heap.size + 1 + 1) (by omega)).trans Hz6.out
         have Hz7 := Lib.hid hz7
         have q30 := cell_of_row _ _ 0 _ _ _ Hr7.out
         have q31 := cell_of_row _ _ 1 _ _ _ Hr7.out
         have q32 := cell_of_row _ _ 2 _ _ _ Hr7.out
         have z0 := cell_of_row _ _ 0 _ _ _ hz7
         have z1 := cell_of_row _ _ 1 _ _ _ hz7
         have z2 := cell_of_row _ _ 2 _ _ _ hz7
         have g0 := frozen_of_row _ _ 0 _ _ hz7
         have g1 := frozen_of_row _ _ 1 _ _ hz7
         have g2 := frozen_of_row _ _ 2 _ _ hz7
         clear hown hb hz7)
      | fail)
  all_goals go_wp2
  all_goals have hz9 := sq3 (x := .slice u1.a Q1.length u1.c) (y := .slice u2.a Q2.length u2.c) (z := .slice u3.a Q3.length u3.c) Hz7.out
  all_goals have y0 := cell_of_row _ _ 0 _ _ _ hz9
  all_goals have y1 := cell_of_row _ _ 1 _ _ _ hz9
  all_goals have y2 := cell_of_row _ _ 2 _ _ _ hz9
  all_goals refine bodyPost_ret (v := .tuple #[.agg #[.slice u1.a Q1.length u1.c, .slice u2.a Q2.length u2.c, .slice u3.a Q3.length u3.c], .int .i64 0]) (by simp only [results, Tryz.results35, go_sem, y0, y1, y2]; first | rfl | simp [go_sem, *]) rfl ?_
  all_goals exact ⟨u1, u2, u3, rfl, own_rebase (own_other (ownsRow_below (ownsRow_below Hown5.out Hb6.out) Hb7.out) sq3_only (fun k hk e => by injection e with e; have := own_base Hown5.out k hk; omega)) (by omega), own_rebase (own_other (ownsRow_below Hown6.out Hb7.out) sq3_only (fun k hk e => by injection e with e; have := own_base Hown6.out k hk; omega)) (by omega), own_rebase (own_other Hown7.out sq3_only (fun k hk e => by injection e with e; have := own_base Hown7.out k hk; omega)) (by omega), sq3_below (Hb4.out.trans ((Hb5.out.trans ((Hb6.out.trans (Hb7.out.mono Hb6.out.size)).mono Hb5.out.size)).mono Hb4.out.size)) (by omega)⟩
theorem evalW_any (A : Option Addr) (n c : Nat) (C : Option Addr) (k cc : Nat) (B : Option Addr) (m d : Nat) (y pc cr sch t : Int) (Q1 Q2 Q3 : List R4) (w : World) (hq1 : Q1.length ≤ 90) (hq2 : Q2.length ≤ 90) (hq3 : Q3.length ≤ 90)
    (HQ : ∀ W, Below w.heap.size w W → Calls Tryz.prog 107 #[.agg #[.int .i64 y, .slice C k cc, .slice A n c, .slice none 0 0, .int .i64 0, .int .i64 pc, .slice B m d, .int .i64 cr, .int .i64 sch, .slice B m d], sameV t] W (SqPost W Q1 Q2 Q3))
    (HV : ∀ W, Below w.heap.size w W → Calls Tryz.prog 106 #[.agg #[.int .i64 y, .slice C k cc, .slice A n c, .slice none 0 0, .int .i64 0, .int .i64 pc, .slice B m d, .int .i64 cr, .int .i64 sch, .slice B m d], sameV t] W fun e w' => e = .returned (.int .i64 0) ∧ Below W.heap.size W w') :
    Calls Tryz.prog 35 #[sameV t, .agg #[.int .i64 pc, .slice B m d, .int .i64 cr, .int .i64 sch], .int .i64 y, .slice C k cc, .slice A n c, .slice none 0 0, .int .i64 0] w (EvPost w Q1 Q2 Q3) := by
  rcases Nat.lt_or_ge Q1.length Q2.length with h1 | h1
  · rcases Nat.lt_or_ge Q2.length Q3.length with h2 | h2
    · exact evalW_4 A n c C k cc B m d y pc cr sch t Q1 Q2 Q3 w hq1 hq2 hq3 h1 h2 HQ HV
    · exact evalW_3 A n c C k cc B m d y pc cr sch t Q1 Q2 Q3 w hq1 hq2 hq3 h1 (by omega) HQ HV
  · rcases Nat.lt_or_ge Q1.length Q3.length with h2 | h2
    · exact evalW_2 A n c C k cc B m d y pc cr sch t Q1 Q2 Q3 w hq1 hq2 hq3 (by omega) h2 HQ HV
    · exact evalW_1 A n c C k cc B m d y pc cr sch t Q1 Q2 Q3 w hq1 hq2 hq3 (by omega) (by omega) HQ HV
end Go.Proofs.YtfmkmhhghmdakaaGreatDoor
