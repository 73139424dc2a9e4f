/- Contract: Land (keep). -/
import Derived.Test.YtglanlpjoaholaaGreatY2
import Derived.Test.YtglanlpjoaholaaGreatF5
import Derived.Test.YtglanlpjoaholaaGreatT
namespace Go.Proofs.YtglanlpjoaholaaGreat
open Go.RowKit Go.Shelf
set_option linter.unusedVariables false
set_option linter.unusedSimpArgs false

theorem land_rect (r : List Int) : LandOk [mkRect r 9] := by
  have h := mkRect_in r 9 (by omega)
  exact ⟨fun q hq => by rw [List.mem_singleton] at hq; subst hq; exact h, by simp, ⟨xEdges [mkRect r 9], by rw [xEdges_len]; simp, fun y => cut_inL y _⟩⟩
theorem land_reg (r : List Int) : LandOk (mkReg r 9 2).1 := by
  have hb := nx_bd r 3 (by omega)
  obtain ⟨h1, h2⟩ := mkRects_in 9 (by omega) (nx r 3).toNat r.tail
  have h3 := ofP_reg 9 (by omega) _ h1 2 (by omega) (by omega) (by omega)
  have e : (mkReg r 9 2).1 = canonP (mkRects (nx r 3).toNat r.tail 9).1 := by
    unfold mkReg
    rw [← ofP_eq, show (2 : Int) + 1 = 3 from rfl, h3.1]
  rw [e]
  refine ⟨h3.2.ins, by have := h3.2.len; omega, ⟨xEdges (mkRects (nx r 3).toNat r.tail 9).1, by rw [xEdges_len]; omega, fun y => ?_⟩⟩
  have e2 : (fun x => inL (canonP (mkRects (nx r 3).toNat r.tail 9).1) x y) = fun x => inL (mkRects (nx r 3).toNat r.tail 9).1 x y := by
    funext x
    rw [(canonP_canon _ h1.pos).mem]
  rw [e2]
  exact cut_inL y _
/-- What Land leaves. -/
def LandPost (w : World) (g : Nat) (e : Ending) (w' : World) : Prop :=
  ∃ (v : LV) (a : List R4) (r : List Int), e = .returned (.agg #[.slice v.a a.length v.c]) ∧ w'.ownsRow w.heap.size 64 4 (.slice v.a a.length v.c) a.length (rCells a) ∧ TapeAt w' g r ∧ w.grownBy w' (some g) ∧ LandOk a

set_option maxHeartbeats 4000000 in
set_option maxRecDepth 100000 in
theorem land_any (g : Nat) (r : List Int) (w : World) (ht : TapeAt w g r) :
    Calls Tryz.prog 35 #[.pointer (some ⟨g, 0, none⟩), .int .i64 9, .int .i64 2] w (LandPost w g) := by
  have hlt := ht.lt
  have Hr := Lib.hid (region_any g r 9 2 (w.alloc (.cells #[.slice none 0 0] 33)) (ht.alloc _) (by omega) (by omega))
  have Hok := Lib.hid (land_reg r)
  generalize mkReg r 9 2 = rr at *
  obtain ⟨a, r1⟩ := rr
  dsimp only at Hok
  clear ht
  go_enter Tryz.func35, Tryz.ntmps35
  go_upto_region 2 with (first
    | (go_at_call 20
       refine Hr.out.mono ?_
       rintro e w1 ⟨v1, rfl, hown1, ht1, hg1⟩
       dsimp only at hown1 ht1
       obtain ⟨A, c, rfl, _, _, _⟩ := own_slice hown1
       have Hown1 := Lib.hid hown1
       have Ht1 := Lib.hid ht1
       have Hg1 := Lib.hid hg1
       have hs1 := hg1.size
       clear hown1 ht1 hg1)
    | fail)
  simp at hs1
  have hg1 := Ht1.out.lt
  have hr1 : w1.heap[w.heap.size]? = some (.cells #[.slice none 0 0] 33 (0, 0)) := (Hg1.out.block w.heap.size (by simp) (by intro e; injection e; omega)).trans (heap_alloc_new w _)
  have Hg : Hid (w.grownBy w1 (some g)) := Lib.hid ⟨Hg1.out.os, Hg1.out.tape, Hg1.out.output, by omega, fun i hi hne => (Hg1.out.block i (by simp; omega) hne).trans (Below.heap_alloc w _ i hi)⟩
  obtain ⟨wb, hwb⟩ : ∃ wb : World, wb = w1.alloc (.cells #[.slice A a.length c] 33) := ⟨_, rfl⟩
  rw [← hwb]
  have HX : Hid (wb.heap[w1.heap.size]? = some (.cells #[.slice A a.length c] 33 (0, 0))) := Lib.hid (by rw [hwb]; exact heap_alloc_new w1 _)
  have HG : Hid (wb.heap[w.heap.size]? = some (.cells #[.slice none 0 0] 33 (0, 0))) := Lib.hid (by rw [hwb]; exact (Below.heap_alloc w1 _ _ (by omega)).trans hr1)
  have Hgb : Hid (w.grownBy wb (some g)) := Lib.hid (by rw [hwb]; exact only_alloc Hg.out _)
  have Htb : Hid (TapeAt wb g r1) := Lib.hid (by rw [hwb]; exact Ht1.out.alloc _)
  have hlow := own_lt Hown1.out
  have Hownb : Hid (wb.ownsRow (w.heap.size + 1) 64 4 (.slice A a.length c) a.length (rCells a)) := Lib.hid (by rw [hwb]; have := Hown1.out.alloc (.cells #[.slice A a.length c] 33); simpa using this)
  have Hlow : Hid (∀ k, (Value.slice A a.length c).ownBlock = some k → w.heap.size + 1 ≤ k ∧ k < w1.heap.size) := Lib.hid (fun k hk => ⟨own_base Hownb.out k hk, hlow k hk⟩)
  have hXb : w1.heap.size < wb.heap.size := by rw [hwb]; simp
  have hGb : w.heap.size < w1.heap.size := by omega
  obtain ⟨X, hX⟩ : ∃ X, w1.heap.size = X := ⟨_, rfl⟩
  rw [hX] at HX hXb hGb Hlow ⊢
  clear hwb hr1 Hg Ht1 Hown1 Hg1 hs1 hg1 Hr hlow hX
  have x0 := cell_of_row wb X 0 _ _ _ HX.out
  by_cases h0 : a.length = 0
  · have h0' : (a.length : Int) = 0 := by omega
    have h0d : decide ((a.length : Int) = 0) = true := decide_eq_true h0'
    have hgb := Htb.out.lt
    have HRe := Lib.hid (rect_any g r1 9 wb Htb.out (by omega))
    have Hqo := Lib.hid (land_rect r1)
    generalize mkRect r1 9 = q at *
    go_upto_region 3 with fail
    go_upto_region 4 with (first
      | (go_at_call 52
         refine HRe.out.mono ?_
         rintro e w2 ⟨rfl, ht2, hg2⟩
         have Ht2 := Lib.hid ht2
         have Hg2 := Lib.hid hg2
         have hs2 := hg2.size
         have hrX := (hg2.block X hXb (by intro e; injection e; omega)).trans HX.out
         have hrG := (hg2.block w.heap.size (by omega) (by intro e; injection e; omega)).trans HG.out
         have hlX2 : X < w2.heap.size := by omega
         have xc2 : ∀ o, (w2.alloc o).cell? ⟨X, 0, none⟩ = some (.slice A a.length c) := fun o => by rw [World.cell?_alloc_lt w2 o _ hlX2]; exact cell_of_row w2 X 0 _ _ _ hrX
         have xf2 : ∀ o, (w2.alloc o).frozen? ⟨X, 0, none⟩ = false := fun o => frozen_of_row (w2.alloc o) X 0 _ _ ((Below.heap_alloc w2 o _ hlX2).trans hrX)
         have HrX := Lib.hid hrX
         have HrG := Lib.hid hrG
         clear ht2 hg2 hrX hrG)
      | fail)
    obtain ⟨wc, hwc⟩ : ∃ wc : World, wc = (w2.setCell ⟨X, 0, none⟩ (.slice (some ⟨w2.heap.size, 0, none⟩) 1 1)).alloc (.cells #[.int .i64 q.l, .int .i64 q.b, .int .i64 q.r, .int .i64 q.t] 64) := ⟨_, rfl⟩
    rw [← hwc]
    have hrX : wc.heap[X]? = some (.cells #[.slice (some ⟨w2.heap.size, 0, none⟩) 1 1] 33 (0, 0)) := by
      rw [hwc]
      have h := heap_setCell_same w2 X 0 _ _ (.slice (some ⟨w2.heap.size, 0, none⟩) 1 1) HrX.out
      exact (Below.heap_alloc _ _ _ (by simpa using hlX2)).trans (by simpa using h)
    have hr : wc.heap[w.heap.size]? = some (.cells #[.slice none 0 0] 33 (0, 0)) := by
      rw [hwc]
      exact (Below.heap_alloc _ _ _ (by simp; omega)).trans ((Below.heap_setCell _ _ _ _ (by show w.heap.size ≠ X; omega)).trans HrG.out)
    have Ho : Hid (wc.ownsRow w2.heap.size 64 4 (.slice (some ⟨w2.heap.size, 0, none⟩) 1 1) 1 (rCells [q])) := Lib.hid (by
      rw [hwc]
      have h := own_lit (w2.setCell ⟨X, 0, none⟩ (.slice (some ⟨w2.heap.size, 0, none⟩) 1 1)) 64 4 1 #[.int .i64 q.l, .int .i64 q.b, .int .i64 q.r, .int .i64 q.t] (rCells [q]) rfl (by rfl) (by unfold maxLen; omega)
      simpa using h)
    have Htc : Hid (TapeAt wc g r1.tail.tail.tail.tail) := Lib.hid (by rw [hwc]; exact (Ht2.out.setCell (by show g < X; omega) _).alloc _)
    have Hgc : Hid (w.grownBy wc (some g)) := Lib.hid (by rw [hwc]; exact only_alloc (only_setCell (only_trans Hgb.out Hg2.out) (.inr (by show w.heap.size ≤ X; omega)) _) _)
    have hlow := own_base Ho.out
    have xc := cell_of_row wc X 0 _ _ _ hrX
    have cr := cell_of_row wc w.heap.size 0 _ _ _ hr
    have fr := frozen_of_row wc w.heap.size 0 _ _ hr
    have cs : (wc.setCell ⟨w.heap.size, 0, none⟩ (.slice (some ⟨w2.heap.size, 0, none⟩) 1 1)).cell? ⟨w.heap.size, 0, none⟩ = some (.slice (some ⟨w2.heap.size, 0, none⟩) 1 1) := by
      rw [cell_of_row _ w.heap.size 0 _ _ _ (heap_setCell_same wc w.heap.size 0 _ _ _ hr)]
      simp
    have hwq : w.heap.size < w2.heap.size := by omega
    clear hr hrX hwc xc2 xf2
    go_wp2
    refine bodyPost_ret (v := .agg #[.slice (some ⟨w2.heap.size, 0, none⟩) 1 1]) (by simp [results, Tryz.results35, go_sem, *]) rfl ?_
    refine ⟨⟨some ⟨w2.heap.size, 0, none⟩, 1⟩, [q], r1.tail.tail.tail.tail, rfl, ?_, Htc.out.setCell (by show g < w.heap.size; exact hlt) _, only_setCell Hgc.out (.inr (Nat.le_refl _)) _, Hqo.out⟩
    exact own_other (own_rebase Ho.out (by omega)) (only_setCell (g := w.heap.size) (World.grownBy.refl _ _) (.inl rfl) _) (fun k hk e => by injection e with e; have := hlow k hk; omega)
  · have h0' : ¬ (a.length : Int) = 0 := by omega
    have h0d : decide ((a.length : Int) = 0) = false := decide_eq_false h0'
    have hr := HG.out
    have cr := cell_of_row wb w.heap.size 0 _ _ _ hr
    have fr := frozen_of_row wb w.heap.size 0 _ _ hr
    have cs : (wb.setCell ⟨w.heap.size, 0, none⟩ (.slice A a.length c)).cell? ⟨w.heap.size, 0, none⟩ = some (.slice A a.length c) := by
      rw [cell_of_row _ w.heap.size 0 _ _ _ (heap_setCell_same wb w.heap.size 0 _ _ _ hr)]
      simp
    clear hr
    go_wp2
    refine bodyPost_ret (v := .agg #[.slice A a.length c]) (by simp [results, Tryz.results35, go_sem, *]) rfl ?_
    refine ⟨⟨A, c⟩, a, r1, rfl, ?_, Htb.out.setCell (by show g < w.heap.size; exact hlt) _, only_setCell Hgb.out (.inr (Nat.le_refl _)) _, Hok.out⟩
    exact own_other (own_rebase Hownb.out (by omega)) (only_setCell (g := w.heap.size) (World.grownBy.refl _ _) (.inl rfl) _) (fun k hk e => by injection e with e; have := Hlow.out k hk; omega)
end Go.Proofs.YtglanlpjoaholaaGreat
