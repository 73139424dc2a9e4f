import Derived.Test.YtfmkmhhghmdakaaGreatDoorRI
import Derived.Test.YtfmkmhhghmdakaaGreatDoorRQ
namespace Go.Proofs.YtfmkmhhghmdakaaGreatDoor
open Go.RowKit Go.Shelf
set_option linter.unusedVariables false
set_option linter.unusedSimpArgs false
set_option maxHeartbeats 64000000
set_option maxRecDepth 100000
theorem sq3 {w : World} {g : Nat} {t : TypeId} {a b c x y z : Value} (h : w.heap[g]? = some (.cells #[a, b, c] t (0, 0))) : (((w.setCell ⟨g, 0, none⟩ x).setCell ⟨g, 1, none⟩ y).setCell ⟨g, 2, none⟩ z).heap[g]? = some (.cells #[x, y, z] t (0, 0)) := by
  have h1 := heap_setCell_same w g 0 _ _ x h
  have h2 := heap_setCell_same _ g 1 _ _ y h1
  have h3 := heap_setCell_same _ g 2 _ _ z h2
  rw [h3]
  simp
theorem sq3_only {w : World} {g : Nat} {x y z : Value} : w.grownBy (((w.setCell ⟨g, 0, none⟩ x).setCell ⟨g, 1, none⟩ y).setCell ⟨g, 2, none⟩ z) (some g) :=
  only_setCell (only_setCell (only_setCell (World.grownBy.refl _ (some g)) (.inl rfl) _) (.inl rfl) _) (.inl rfl) _
theorem sq3_below {w w0 : World} {g k : Nat} {x y z : Value} (h : Below k w0 w) (hg : k ≤ g) : Below k w0 (((w.setCell ⟨g, 0, none⟩ x).setCell ⟨g, 1, none⟩ y).setCell ⟨g, 2, none⟩ z) := ((h.setCell hg _).setCell hg _).setCell hg _
theorem termB_fn (w : World) : BoolFn 273 #[] andB w := by
  intro W x y _
  show Calls Tryz.prog 273 #[.bool x, .bool y] W _
  cases x <;> cases y
  all_goals go_enter Tryz.func273, Tryz.ntmps273
  all_goals go_wp2
  all_goals go_ret
  all_goals exact ⟨rfl, gBel⟩
theorem termW_fn (w : World) : BoolFn 330 #[] notB w := by
  intro W x y _
  show Calls Tryz.prog 330 #[.bool x, .bool y] W _
  cases x <;> cases y
  all_goals go_enter Tryz.func330, Tryz.ntmps330
  all_goals go_wp2
  all_goals go_ret
  all_goals exact ⟨rfl, gBel⟩
theorem termE_fn (w : World) : BoolFn 274 #[] orB w := by
  intro W x y _
  show Calls Tryz.prog 274 #[.bool x, .bool y] W _
  cases x <;> cases y
  all_goals go_enter Tryz.func274, Tryz.ntmps274
  all_goals go_wp2
  all_goals go_ret
  all_goals exact ⟨rfl, gBel⟩
theorem same1_any (v : Int) (C : Option Addr) (k cc X Z : Nat) (K : List Cp) (f : Int) (w : World) (hC : SlC w C k cc K) (c1 : w.cell? ⟨X, 1, none⟩ = some (.slice C k cc)) (t2 : w.cell? ⟨Z, 0, none⟩ = some (.int .i64 f)) (hv0 : 0 ≤ v) (hv : v < (k : Int)) :
    Calls Tryz.prog 331 #[.int .i64 v, .pointer (some ⟨X, 0, none⟩), .pointer (some ⟨Z, 0, none⟩)] w fun e w' => e = .returned (.bool (decide (famK K v = f))) ∧ Below w.heap.size w w' := by
  obtain ⟨j, rfl⟩ : ∃ j : Nat, v = (j : Int) := ⟨v.toNat, by omega⟩
  have hj : j < K.length := by rw [hC.len]; omega
  have hjk : (j : Int) < (k : Int) := hv
  obtain ⟨b, off, rfl, hb, d0, d1, d2⟩ := hC.at j hj
  rw [famK_at K j hj]
  generalize K[j].fam = F at *
  clear hC d0 d2
  go_enter Tryz.func331, Tryz.ntmps331
  go_upto_region 1 with fail
  go_quiet (fail)
  go_wp2
  go_ret
  exact ⟨by first | rfl | (by_cases h : F = f <;> simp [h]), gBel⟩
theorem same2_any (v : Int) (C : Option Addr) (k cc X Z : Nat) (K : List Cp) (f : Int) (w : World) (hC : SlC w C k cc K) (c1 : w.cell? ⟨X, 1, none⟩ = some (.slice C k cc)) (t2 : w.cell? ⟨Z, 0, none⟩ = some (.int .i64 f)) (hv0 : 0 ≤ v) (hv : v < (k : Int)) :
    Calls Tryz.prog 332 #[.int .i64 v, .pointer (some ⟨X, 0, none⟩), .pointer (some ⟨Z, 0, none⟩)] w fun e w' => e = .returned (.bool (!decide (famK K v = f))) ∧ Below w.heap.size w w' := by
  obtain ⟨j, rfl⟩ : ∃ j : Nat, v = (j : Int) := ⟨v.toNat, by omega⟩
  have hj : j < K.length := by rw [hC.len]; omega
  have hjk : (j : Int) < (k : Int) := hv
  obtain ⟨b, off, rfl, hb, d0, d1, d2⟩ := hC.at j hj
  rw [famK_at K j hj]
  generalize K[j].fam = F at *
  clear hC d0 d2
  go_enter Tryz.func332, Tryz.ntmps332
  go_upto_region 1 with fail
  go_quiet (fail)
  go_wp2
  go_ret
  exact ⟨by first | rfl | (by_cases h : F = f <;> simp [h]), gBel⟩
theorem knownTm_any (A : Option Addr) (n c : Nat) (l : RcL) (C : Option Addr) (k cc : Nat) (B : Option Addr) (m d : Nat) (P : List R4) (y s pc cr sch : Int) (f : Nat) (lb : Array Value) (p : Int → Bool) (w : World) (hA : SlRc w A n c l) (hl : HyW (k : Int) (rcs l)) (hn : n ≤ 100) (hk : k ≤ 8) (hB : SlR w B m d P) (hm : m ≤ 700) (hP : InS 30 P) (hy : s ≤ y ∧ y ≤ 100 ∧ 0 ≤ s)
    (eg : ∀ args w, (callFunc f args).run Tryz.prog w = .ok (.enter f args) w) (hp : CropFnW (k : Int) f #[] lb p w) :
    Calls Tryz.prog 280 #[.agg #[.int .i64 y, .slice C k cc, .slice A n c, .slice none 0 0, .int .i64 0, .int .i64 pc, .slice B m d, .int .i64 cr, .int .i64 sch, .slice B m d], .int .i64 s, .func (.func f) #[] lb] w (RowPost w (chooseP andB P (rectsP (rcs l) (y - s) p))) := by
  have HR := Lib.hid (fun W (h : Below w.heap.size w W) => rectsW_any A n c l (y - s) f #[] lb p W (hA.below h) (k : Int) hl hn eg (hp.below h))
  have HC := Lib.hid (fun W B' m' d' (h : Below w.heap.size w W) (h' : SlR W B' m' d' (rectsP (rcs l) (y - s) p)) => choose_any B B' m d m' d' 273 #[] andB P _ W (hB.below h) h' (by omega) (by have := h'.len; have := rectsW_len hl (by omega) (y - s) p; omega) hP.pos (rectsW_in hl _ p).pos (enters_of Tryz.func273 (by kernel_rfl) rfl) (termB_fn W))
  have hyw : IntKind.i64.wrap (y - s) = y - s := IntWalk.i64_in _ (by omega)
  clear hA hl hB hP eg hp
  generalize rectsP (rcs l) (y - s) p = Q at *
  generalize chooseP andB P Q = Z at *
  go_enter Tryz.func280, Tryz.ntmps280
  go_upto_region 1 with fail
  obtain ⟨w1, hw1⟩ : ∃ w1 : World, w1 = w.alloc (.cells #[.int .i64 y, .slice C k cc, .slice A n c, .slice none 0 0, .int .i64 0, .int .i64 pc, .slice B m d, .int .i64 cr, .int .i64 sch, .slice B m d] 163) := ⟨_, rfl⟩
  rw [← hw1]
  have hr1 : w1.heap[w.heap.size]? = some (.cells #[.int .i64 y, .slice C k cc, .slice A n c, .slice none 0 0, .int .i64 0, .int .i64 pc, .slice B m d, .int .i64 cr, .int .i64 sch, .slice B m d] 163 (0, 0)) := by rw [hw1]; exact heap_alloc_new w _
  have Hr1 := Lib.hid hr1
  have Hb1 : Hid (Below w.heap.size w w1) := Lib.hid (by rw [hw1]; exact gBel)
  have hs1 : w.heap.size < w1.heap.size := by rw [hw1]; simp
  have c0 := cell_of_row _ _ 0 _ _ _ hr1
  have c2 := cell_of_row _ _ 2 _ _ _ hr1
  have c9 := cell_of_row _ _ 9 _ _ _ hr1
  clear hw1 hr1
  go_region_held3 (fun w' => w'.cell? ⟨w.heap.size, 0, none⟩ = some (.int .i64 y) ∧ w'.cell? ⟨w.heap.size, 2, none⟩ = some (.slice A n c) ∧ w'.cell? ⟨w.heap.size, 9, none⟩ = some (.slice B m d))
    (first | go_keep | ((repeat' apply And.intro) <;> go_keep))
    (first
      | (go_at_call 100
         refine (HR.out _ (by exact Hb1.out.trans (Below.mono gBel Hb1.out.size))).mono ?_
         rintro e w2 ⟨v2, rfl, hown2, hb2⟩
         obtain ⟨A2, c2', rfl, hS2⟩ := SlR.of_own hown2
         have HS2 := Lib.hid hS2
         have Hb2 : Hid (Below w1.heap.size w1 w2) := Lib.hid (show Below w1.heap.size w1 w2 from (by have hbq := hb2; exact gBelo))
         have Hr2 := Lib.hid ((Hb2.out.block w.heap.size hs1).trans Hr1.out)
         have c02 := cell_of_row _ _ 0 _ _ _ Hr2.out
         have c22 := cell_of_row _ _ 2 _ _ _ Hr2.out
         have c92 := cell_of_row _ _ 9 _ _ _ Hr2.out
         have hs2 : w.heap.size < w2.heap.size := Nat.lt_of_lt_of_le hs1 Hb2.out.size
         clear hown2 hb2 hS2)
      | (go_at_call 54
         refine (HC.out _ _ _ _ (Hb1.out.trans (Below.mono (Hb2.out.trans (Below.mono gBel Hb2.out.size)) Hb1.out.size)) (HS2.out.below gBel)).mono ?_
         rintro e w4 ⟨v4, rfl, hown4, hb4⟩
         have Hown4 := Lib.hid hown4
         have Hb4 : Hid (Below w2.heap.size w2 w4) := Lib.hid (show Below w2.heap.size w2 w4 from (by have hbq := hb4; exact gBelo))
         have Hr4 := Lib.hid ((Hb4.out.block w.heap.size hs2).trans Hr2.out)
         have c04 := cell_of_row _ _ 0 _ _ _ Hr4.out
         have c24 := cell_of_row _ _ 2 _ _ _ Hr4.out
         have c94 := cell_of_row _ _ 9 _ _ _ Hr4.out
         clear hown4 hb4)
      | fail)
  all_goals go_wp2
  all_goals go_ret
  all_goals exact ⟨_, rfl, own_rebase Hown4.out (Nat.le_trans Hb1.out.size Hb2.out.size), Hb1.out.trans ((Hb2.out.trans (Hb4.out.mono Hb2.out.size)).mono Hb1.out.size)⟩
theorem restTm_any (A : Option Addr) (n c : Nat) (C : Option Addr) (k cc : Nat) (B : Option Addr) (m d : Nat) (P : List R4) (y pc cr sch : Int) (Bx : List Int) (A1 : Option Addr) (n1 c1 : Nat) (l1 : List R4) (A2 : Option Addr) (n2 c2 : Nat) (l2 : List R4) (w : World) (hB : SlR w B m d P) (hm : m ≤ 700) (hP : RgB Bx P) (hBx : Bx.length ≤ 2) (h1 : SlR w A1 n1 c1 l1) (hn1 : n1 ≤ 700) (hi1 : RgB Bx l1) (h2 : SlR w A2 n2 c2 l2) (hn2 : n2 ≤ 700) (hi2 : RgB Bx l2) :
    Calls Tryz.prog 275 #[.agg #[.int .i64 y, .slice C k cc, .slice A n c, .slice none 0 0, .int .i64 0, .int .i64 pc, .slice B m d, .int .i64 cr, .int .i64 sch, .slice B m d], .slice A1 n1 c1, .slice A2 n2 c2] w fun e w' => ∃ v, e = .returned (.agg #[.slice A1 n1 c1, .slice A2 n2 c2, v]) ∧ w'.ownsRow w.heap.size 68 4 v (chooseP notB (chooseP notB P l1) l2).length (rCells (chooseP notB (chooseP notB P l1) l2)) ∧ Below w.heap.size w w' := by
  have hmid := (hP.notB hi1.ins).len
  have hin := (hP.notB hi1.ins).ins
  have HC1 := Lib.hid (fun W (h : Below w.heap.size w W) => choose_any B A1 m d n1 c1 330 #[] notB P l1 W (hB.below h) (h1.below h) (by omega) (by omega) hP.ins.pos hi1.ins.pos (enters_of Tryz.func330 (by kernel_rfl) rfl) (termW_fn W))
  have HC2 := Lib.hid (fun W B' m' d' (h : Below w.heap.size w W) (h' : SlR W B' m' d' (chooseP notB P l1)) => choose_any B' A2 m' d' n2 c2 330 #[] notB _ l2 W h' (h2.below h) (by have := h'.len; omega) (by omega) hin.pos hi2.ins.pos (enters_of Tryz.func330 (by kernel_rfl) rfl) (termW_fn W))
  clear hB hP h1 hi1 h2 hi2 hmid hin
  generalize chooseP notB P l1 = Q at *
  generalize chooseP notB Q l2 = Z at *
  go_enter Tryz.func275, Tryz.ntmps275
  go_upto_region 1 with fail
  obtain ⟨w1, hw1⟩ : ∃ w1 : World, w1 = (w.alloc (.cells #[.int .i64 y, .slice C k cc, .slice A n c, .slice none 0 0, .int .i64 0, .int .i64 pc, .slice B m d, .int .i64 cr, .int .i64 sch, .slice B m d] 163)).alloc (.cells #[.slice none 0 0, .slice none 0 0, .slice none 0 0] 166) := ⟨_, rfl⟩
  rw [← hw1]
  have hr1 : w1.heap[w.heap.size]? = some (.cells #[.int .i64 y, .slice C k cc, .slice A n c, .slice none 0 0, .int .i64 0, .int .i64 pc, .slice B m d, .int .i64 cr, .int .i64 sch, .slice B m d] 163 (0, 0)) := by rw [hw1]; exact (Below.heap_alloc _ _ _ (by simp)).trans (heap_alloc_new w _)
  have Hz1 : Hid (w1.heap[w.heap.size + 1]? = some (.cells #[.slice none 0 0, .slice none 0 0, .slice none 0 0] 166 (0, 0))) := Lib.hid (by rw [hw1]; exact heap_alloc2_new w _ _)
  have Hb1 : Hid (Below w.heap.size w w1) := Lib.hid (by rw [hw1]; exact gBel)
  have hs1 : w.heap.size + 1 < w1.heap.size := by rw [hw1]; simp
  have c9 := cell_of_row _ _ 9 _ _ _ hr1
  clear hw1 hr1
  go_upto_region 2 with (first
    | (go_at_call_of 54 (Value.slice B m d)
       refine (HC1.out _ Hb1.out).mono ?_
       rintro e w2 ⟨v2, rfl, hown2, hb2⟩
       obtain ⟨A2', c2', rfl, hS2⟩ := SlR.of_own hown2
       have HS2 := Lib.hid hS2
       have Hz2 := Lib.hid ((hb2.block (w.heap.size + 1) hs1).trans Hz1.out)
       have hs2 : w.heap.size + 1 < w2.heap.size := Nat.lt_of_lt_of_le hs1 hb2.size
       have Hb2 := Lib.hid (Hb1.out.trans (hb2.mono Hb1.out.size))
       clear hown2 hb2 hS2 c9)
    | (go_at_call 54
       refine (HC2.out _ _ _ _ Hb2.out HS2.out).mono ?_
       rintro e w3 ⟨v3, rfl, hown3, hb3⟩
       obtain ⟨A3, c3, rfl, _, _, _⟩ := own_slice hown3
       have Hown3 := Lib.hid (own_rebase (base' := w.heap.size + 1 + 1) hown3 (by omega))
       have hz3 := (hb3.block (w.heap.size + 1) hs2).trans Hz2.out
       have Hz3 := Lib.hid hz3
       have z0 := cell_of_row _ _ 0 _ _ _ hz3
       have z1 := cell_of_row _ _ 1 _ _ _ hz3
       have z2 := cell_of_row _ _ 2 _ _ _ hz3
       have g0 := frozen_of_row _ _ 0 _ _ hz3
       have g1 := frozen_of_row _ _ 1 _ _ hz3
       have g2 := frozen_of_row _ _ 2 _ _ hz3
       have Hb3 := Lib.hid (Hb2.out.trans (hb3.mono Hb2.out.size))
       clear hown3 hb3 hz3)
    | fail)
  go_wp2
  have hz5 := sq3 (x := .slice A1 n1 c1) (y := .slice A2 n2 c2) (z := .slice A3 Z.length c3) Hz3.out
  have y0 := cell_of_row _ _ 0 _ _ _ hz5
  have y1 := cell_of_row _ _ 1 _ _ _ hz5
  have y2 := cell_of_row _ _ 2 _ _ _ hz5
  refine bodyPost_ret (v := .agg #[.slice A1 n1 c1, .slice A2 n2 c2, .slice A3 Z.length c3]) (by simp only [results, Tryz.results275, go_sem, y0, y1, y2]; first | rfl | simp [go_sem, *]) rfl ?_
  exact ⟨_, rfl, own_rebase (own_other Hown3.out sq3_only (fun k hk e => by injection e with e; have := own_base Hown3.out k hk; omega)) (by omega), sq3_below Hb3.out (by omega)⟩
end Go.Proofs.YtfmkmhhghmdakaaGreatDoor
