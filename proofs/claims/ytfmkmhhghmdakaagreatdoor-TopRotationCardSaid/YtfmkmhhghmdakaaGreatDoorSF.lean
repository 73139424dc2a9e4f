import Derived.RangeFuncNested
import Derived.RangeFuncBound
import Derived.RangeFuncCalls
import Derived.RangeFuncLeaves
import Derived.Shelf.Abstract
import Derived.Shelf.RegionOpen
import Derived.OwnWalkIn
import Derived.TacticsInMore
import Derived.LoopNIn
import Derived.LoopIn
import Derived.Sort.CutIn
import Derived.Deep.OwnRows
import Derived.Test.YtfmkmhhghmdakaaGreatDoorRM
import Derived.Test.YtfmkmhhghmdakaaGreatDoorSE
namespace Go.Proofs.YtfmkmhhghmdakaaGreatDoor
set_option maxHeartbeats 64000000
set_option maxRecDepth 100000
open Go.RowKit Go.Shelf
set_option linter.unusedVariables false
set_option linter.unusedSimpArgs false
attribute [local go_sem] Oper.semAt_some
theorem range_once {F : Fence} {n : Nat} {P : Program} {w : World} {g : Operand} {ps : Array Tmp} {assign body : Code} {Q : Exit → Act → World → Prop} {a : Act}
    (hro : F.round = none) (h1 : 1 ≤ n) {gf : Nat} {lb : Array Value} (hg : a.eval g = .func (.func gf) #[] lb) (hFg : F.fn gf)
    (eg : ∀ args w, (callFunc gf args).run P w = .ok (.enter gf args) w) (x : Array Value) (hx : x.size = ps.size) (bs : Nat) (cs cs' : Array Value) (T : TypeId)
    (hbs : w.heap[bs]? = some (.cells cs T (0, 0))) (I0 I1 : World → Prop)
    (hI : ∀ (W W' : World) (row : Option Nat), W.grownBy W' row → (∀ r, row = some r → r = bs ∨ (w.heap.size ≤ r ∧ ∃ o : Obj, W.heap[r]? = some o ∧ o.isCells = false)) → (I0 W → I0 W') ∧ (I1 W → I1 W'))
    (h0 : I0 w)
    (hiter : ∀ (l : Nat) (W : World) (J0 J1 : World → Prop), W.heap[bs]? = some (.cells cs T (0, 0)) →
      (∀ (W W' : World) (row : Option Nat), W.grownBy W' row → (∀ r, row = some r → r = bs) → (J0 W → J0 W') ∧ (J1 W → J1 W')) →
      (∀ W1, J0 W1 → W1.heap[bs]? = some (.cells cs' T (0, 0)) → YieldAt F (n - 1 - 1) P l x W1 fun e W' => e = .returned (.bool true) ∧ J1 W' ∧ W'.heap[bs]? = some (.cells cs' T (0, 0))) → J0 W →
      CallsIn F (n - 1) P gf (#[.func (.yield l) #[] #[]] ++ lb) W fun e W' => (∃ v, e = .returned v) ∧ J1 W')
    (a₁ : Act)
    (hassign : ∀ (l : Nat) (W : World) (K : Act → World → Prop), K a₁ W → assign.wpIn (F.inRound l) (n - 1 - 1) P (Exit.then K (fun _ _ _ => False)) { tmps := (ps.zip x).foldl (fun t (p, v) => t.setIfInBounds p v) a.tmps, defers := [] } W)
    (hbody : ∀ (l : Nat) (W : World), w.heap.size ≤ l → (∃ r, W.heap[l]? = some (.loop r)) → I0 W → W.heap[bs]? = some (.cells cs' T (0, 0)) → body.wpIn (F.inRound l) (n - 1 - 1) P (fun e _ W' => e = .normal ∧ KeepsFrom w.heap.size W W' ∧ W'.heap[bs]? = some (.cells cs' T (0, 0)) ∧ I1 W') a₁ W)
    (hdone : ∀ (D : Nat) (W : World), w.heap.size ≤ D → I1 W → W.heap[D]? = some (.deferred (some [])) → Q .normal { a with defers := { target := .collected D, args := #[] } :: a.defers } W) :
    (Code.rangeFunc g ps assign body).wpIn F n P Q a w := by
  have hlt : bs < w.heap.size := (Array.getElem?_eq_some_iff.1 hbs).1
  refine wpIn_rangeFunc ?_
  intro fn hfn
  rw [hro]
  obtain ⟨rec, hrec⟩ : ∃ rec : LoopState → Loop, rec = fun st => { state := st, pending := none, fn, tmps := a.tmps, params := ps, assign, body, defers := w.heap.size } := ⟨_, rfl⟩
  obtain ⟨l, hl⟩ : ∃ l, l = w.heap.size + 1 := ⟨_, rfl⟩
  obtain ⟨W1, hW1⟩ : ∃ W1, W1 = (w.alloc (.deferred (some []))).alloc (.loop (rec .ready)) := ⟨_, rfl⟩
  have hL1 : W1.heap[l]? = some (.loop (rec .ready)) := by
    have := World.alloc_heap_new (w.alloc (.deferred (some []))) (.loop (rec .ready))
    rw [World.size_alloc, ← hl, ← hW1] at this
    exact this
  have hK1 : W1.heap[w.heap.size]? = some (.deferred (some [])) := by
    rw [hW1]; exact (Below.heap_alloc _ _ _ (by simp)).trans (World.alloc_heap_new w _)
  have hI1 : I0 W1 := by
    rw [hW1]
    exact (hI _ _ none (World.grownBy_alloc _ _ none) (fun r e => by cases e)).1 ((hI _ _ none (World.grownBy_alloc _ _ none) (fun r e => by cases e)).1 h0)
  have hb1 : W1.heap[bs]? = some (.cells cs T (0, 0)) := by
    rw [hW1]; exact (Below.heap_alloc _ _ _ (by simp; omega)).trans ((Below.heap_alloc _ _ _ hlt).trans hbs)
  have hput : ∀ (W : World) (o o' : Obj), W.heap[l]? = some o → o.isCells = false → (I0 W → I0 (W.putObj l o')) ∧ (I1 W → I1 (W.putObj l o')) := fun W o o' h1 h2 =>
    hI W _ (some l) (grownBy_putObj' W l o') (fun r e => by cases e; exact .inr ⟨by omega, o, h1, h2⟩)
  refine ⟨l, [{ target := .collected w.heap.size, args := #[] }], W1, { target := .fn (.func gf) lb, args := #[.func (.yield l) #[] #[]] }, W1, gf, #[.func (.yield l) #[] #[]] ++ lb, W1, ?_, ?_, ?_, ?_, fun _ => h1, ?_⟩
  · rw [hW1, hrec, hl]; exact run_enterLoop_outer _ _ _ _ _
  · simp only [resolve, hg]
    simp [go_sem]
  · intro f' hf'; simp [Target.leads] at hf'; subst hf'; exact hFg
  · simp [invoke, go_sem, eg]
  · refine (hiter l W1 (fun W => I0 W ∧ W.heap[l]? = some (.loop (rec .ready)) ∧ W.heap[w.heap.size]? = some (.deferred (some [])))
      (fun W => I1 W ∧ W.heap[l]? = some (.loop (rec .ready)) ∧ W.heap[w.heap.size]? = some (.deferred (some []))) hb1 ?_ ?_ ⟨hI1, hL1, hK1⟩).mono ?_
    · intro W W' row hgr hr
      have hk : ∀ k o, w.heap.size ≤ k → W.heap[k]? = some o → W'.heap[k]? = some o := fun k o hk ho =>
        (hgr.block k (Array.getElem?_eq_some_iff.1 ho).1 (fun e => by have := hr k e.symm; omega)).trans ho
      have hi := hI W W' row hgr (fun r e => .inl (hr r e))
      exact ⟨fun h => ⟨hi.1 h.1, hk _ _ (by omega) h.2.1, hk _ _ (Nat.le_refl _) h.2.2⟩, fun h => ⟨hi.2 h.1, hk _ _ (by omega) h.2.1, hk _ _ (Nat.le_refl _) h.2.2⟩⟩
    · rintro W ⟨hi, hlw, hk⟩ hbw
      have hlt2 : l < W.heap.size := (Array.getElem?_eq_some_iff.1 hlw).1
      have hy := run_yield (P := P) (args := x) hlw (by rw [hrec]; exact hx)
      rw [hrec] at hy
      refine ⟨fn, _, assign, body, hy, roundIn_of_wpIn hfn (hassign l W _ ?_)⟩
      clear hy
      refine ⟨_, run_beginRound hlw (by rw [hrec]), ?_⟩
      have hl2 : (W.putObj l (.loop { rec .ready with state := .busy })).heap[l]? = some (.loop { rec .ready with state := .busy }) := World.putObj_heap_same hlt2
      have hk2 : (W.putObj l (.loop { rec .ready with state := .busy })).heap[w.heap.size]? = some (.deferred (some [])) := (World.putObj_heap_other (by omega)).trans hk
      have hb2 : (W.putObj l (.loop { rec .ready with state := .busy })).heap[bs]? = some (.cells cs' T (0, 0)) := (World.putObj_heap_other (by omega)).trans hbw
      refine wpIn_mono (hbody l _ (by omega) ⟨_, hl2⟩ ((hput W _ _ hlw rfl).1 hi) hb2) ?_
      rintro e a3 W3 ⟨rfl, hk3, hb3, hi3⟩
      have hl3 := hk3.same _ _ (by omega) hl2 rfl
      have hr := run_endRound (P := P) none hl3
      rw [hrec] at hr hl3
      refine ⟨_, _, hr, ?_⟩
      rw [hrec]
      exact ⟨rfl, ⟨(hput W3 _ _ hl3 rfl).2 hi3, World.putObj_heap_same (Array.getElem?_eq_some_iff.1 hl3).1, (World.putObj_heap_other (by omega)).trans (hk3.same _ _ (Nat.le_refl _) hk2 rfl)⟩, (World.putObj_heap_other (by omega)).trans hb3⟩
    · rintro e W2 ⟨⟨v, rfl⟩, hi, hl2, hk⟩
      have hr := run_endLoop (P := P) hl2 (by rw [hrec]; simp)
      rw [hrec] at hr hl2
      exact ⟨none, _, hr, hdone _ _ (Nat.le_refl _) ((hput W2 _ _ hl2 rfl).2 hi) ((World.putObj_heap_other (by omega)).trans hk)⟩
theorem indexBT_any (w : World) : Calls Tryz.prog 239 #[.string { data := #[97, 32, 98, 10] }, .int .u8 10] w fun e w' => e = .returned (.int .i64 3) ∧ w' = w := by
  go_enter Tryz.func239, Tryz.ntmps239
  go_wp2_with (first
    | (go_at_call 307; refine (indexBl_any _ 10 _).mono ?_; rintro e w1 ⟨rfl, rfl⟩)
    | fail)
  go_ret
  exact ⟨by kernel_rfl, rfl⟩
theorem indexFT_any (w : World) : Calls Tryz.prog 237 #[.string { data := #[97, 32, 98, 10] }, .func (.func 156) #[] #[]] w fun e w' => e = .returned (.int .i64 (-1)) ∧ Below w.heap.size w w' := by
  go_enter Tryz.func237, Tryz.ntmps237
  go_wp2_with (first
    | (go_at_call 306; refine (indexP_any _).mono ?_; rintro e w1 ⟨rfl, hb⟩; have Hb := Lib.hid hb; clear hb)
    | fail)
  go_ret
  exact ⟨rfl, Hb.out⟩
theorem containsFT_any (w : World) : Calls Tryz.prog 155 #[.string { data := #[97, 32, 98, 10] }, .func (.func 156) #[] #[]] w fun e w' => e = .returned (.bool false) ∧ Below w.heap.size w w' := by
  go_enter Tryz.func155, Tryz.ntmps155
  go_wp2_with (first
    | (go_at_call 237; refine (indexFT_any _).mono ?_; rintro e w1 ⟨rfl, hb⟩; have Hb := Lib.hid hb; clear hb)
    | fail)
  go_ret
  exact ⟨rfl, Hb.out⟩
theorem linesB_any (w : World) : Calls Tryz.prog 158 #[.string { data := #[97, 32, 98, 10] }] w fun e w' => e = .returned (.func (.func 238) #[] #[.pointer (some ⟨w.heap.size, 0, none⟩)]) ∧ w' = w.alloc (.cells #[.string { data := #[97, 32, 98, 10] }] 9) := by
  go_enter Tryz.func158, Tryz.ntmps158
  go_wp2
  go_ret
  exact ⟨rfl, rfl⟩
def lnLeft (bs : Nat) (W : World) : Nat := match W.cell? ⟨bs, 0, none⟩ with | some (.string s) => s.size | _ => 0
theorem lines1_in (l bs n : Nat) (hn : 3 ≤ n) (W : World) (J0 J1 : World → Prop) (hbs : W.heap[bs]? = some (.cells #[.string { data := #[97, 32, 98, 10] }] 9 (0, 0)))
    (hJ : ∀ (W W' : World) (row : Option Nat), W.grownBy W' row → (∀ r, row = some r → r = bs) → (J0 W → J0 W') ∧ (J1 W → J1 W'))
    (hY : ∀ W1, J0 W1 → W1.heap[bs]? = some (.cells #[.string { data := #[] }] 9 (0, 0)) → YieldAt Fence.wide (n - 1) Tryz.prog l #[.string { data := #[97, 32, 98, 10] }] W1 fun e W' => e = .returned (.bool true) ∧ J1 W' ∧ W'.heap[bs]? = some (.cells #[.string { data := #[] }] 9 (0, 0)))
    (h0 : J0 W) :
    CallsIn Fence.wide n Tryz.prog 238 #[.func (.yield l) #[] #[], .pointer (some ⟨bs, 0, none⟩)] W fun e W' => (∃ v, e = .returned v) ∧ J1 W' := by
  have hf1 : Fence.wide.fn 239 := trivial
  have hn1 : 1 ≤ n := by omega
  have hn2 : 1 ≤ n - 1 := by omega
  have HY := Lib.hid hY
  have HJ := Lib.hid hJ
  have H0 := Lib.hid h0
  have Hbs := Lib.hid hbs
  clear hY hJ h0 hbs
  refine callsIn_of_wp Tryz.func238 rfl trivial ?_ rfl
  simp only [Tryz.ntmps238, List.size_toArray, List.length_cons, List.length_nil, Nat.reduceAdd, Nat.reduceSub, Array.replicate_succ, Array.replicate_zero, List.push_toArray, List.append_toArray, List.nil_append, List.cons_append]
  gi_wp2_with fail
  gi_loopw [3, 4] (fun _ _ wr => (wr.heap[bs]? = some (.cells #[.string { data := #[97, 32, 98, 10] }] 9 (0, 0)) ∧ J0 wr) ∨ (wr.heap[bs]? = some (.cells #[.string { data := #[] }] 9 (0, 0)) ∧ J1 wr)) (fun _ _ wr => lnLeft bs wr)
  case atStart => exact .inl ⟨Hbs.out, H0.out⟩
  case round =>
    rcases hrel with ⟨hb, hj⟩ | ⟨hb, hj⟩
    · have c0 := cell_of_row _ _ 0 _ _ _ hb
      have f0 := frozen_of_row _ _ 0 _ _ hb
      have Hb := Lib.hid hb
      have Hj := Lib.hid hj
      clear hb hj
      gi_upto_region 4 with (first
        | (gi_at_call 239; refine (callsIn_wide.2 (indexBT_any _)).mono ?_; rintro e w1 ⟨rfl, rfl⟩)
        | fail)
      have hw4 : IntKind.i64.wrap 4 = 4 := by decide
      refine wpIn_region_head wideF (S := fun w' => w'.cell? ⟨bs, 0, none⟩ = some (.string { data := #[97, 32, 98, 10] })) 9 (by kernel_rfl) (by kernel_rfl) (fun _ _ h => h) ?_
      have hHeld : (fun w' : World => w'.cell? ⟨bs, 0, none⟩ = some (.string { data := #[97, 32, 98, 10] })) w1.drew := c0
      simp only [List.take_succ_cons, List.take_zero, List.replicate]
      refine wpAnyH_take (i := 0) (v := ?vvb0) rfl (by kernel_rfl) (by kernel_rfl) (by kernel_rfl) (fun _ _ _ h => h) (Or.inl ⟨by rfl, ?hyb0⟩) hHeld ?restb0; (case hyb0 => (intro w hSw; (try dsimp only at hSw); go_simp; all_goals (with_reducible rfl))); simp only [Act.put, List.getElem_toArray, List.getElem_cons_zero, List.getElem_cons_succ, List.setIfInBounds_toArray, List.set_cons_zero, List.set_cons_succ]
      refine wpAnyH_take (i := 1) (v := ?vvb1) rfl (by kernel_rfl) (by kernel_rfl) (by kernel_rfl) (fun _ _ _ h => h) (Or.inl ⟨by rfl, ?hyb1⟩) hHeld ?restb1; (case hyb1 => (intro w hSw; (try dsimp only at hSw); go_simp; all_goals (with_reducible rfl))); simp only [Act.put, List.getElem_toArray, List.getElem_cons_zero, List.getElem_cons_succ, List.setIfInBounds_toArray, List.set_cons_zero, List.set_cons_succ]
      refine wpAnyH_take (i := 2) (v := ?vvb2) rfl (by kernel_rfl) (by kernel_rfl) (by kernel_rfl) (fun _ _ _ h => h) (Or.inl ⟨by rfl, ?hyb2⟩) hHeld ?restb2; (case hyb2 => (intro w hSw; (try dsimp only at hSw); go_simp; all_goals (with_reducible rfl))); simp only [Act.put, List.getElem_toArray, List.getElem_cons_zero, List.getElem_cons_succ, List.setIfInBounds_toArray, List.set_cons_zero, List.set_cons_succ]
      refine wpAnyH_take (i := 3) (v := ?vvb3) rfl (by kernel_rfl) (by kernel_rfl) (by kernel_rfl) (fun _ _ _ h => h) (Or.inl ⟨by rfl, ?hyb3⟩) hHeld ?restb3; (case hyb3 => (intro w hSw; (try dsimp only at hSw); go_simp; all_goals (with_reducible rfl))); simp only [Act.put, List.getElem_toArray, List.getElem_cons_zero, List.getElem_cons_succ, List.setIfInBounds_toArray, List.set_cons_zero, List.set_cons_succ]
      refine wpAnyH_take (i := 4) (v := ?vvb4) rfl (by kernel_rfl) (by kernel_rfl) (by kernel_rfl) (fun _ _ _ h => h) (Or.inl ⟨by rfl, ?hyb4⟩) hHeld ?restb4; (case hyb4 => (intro w hSw; (try dsimp only at hSw); go_simp; all_goals (with_reducible rfl))); simp only [Act.put, List.getElem_toArray, List.getElem_cons_zero, List.getElem_cons_succ, List.setIfInBounds_toArray, List.set_cons_zero, List.set_cons_succ]
      refine wpAnyH_take (i := 5) (v := ?vvb5) rfl (by kernel_rfl) (by kernel_rfl) (by kernel_rfl) (fun _ _ _ h => h) (Or.inl ⟨by rfl, ?hyb5⟩) hHeld ?restb5; (case hyb5 => (intro w hSw; (try dsimp only at hSw); go_simp; all_goals (with_reducible rfl))); simp only [Act.put, List.getElem_toArray, List.getElem_cons_zero, List.getElem_cons_succ, List.setIfInBounds_toArray, List.set_cons_zero, List.set_cons_succ]
      refine wpAnyH_take (i := 6) (v := ?vvb6) rfl (by kernel_rfl) (by kernel_rfl) (by kernel_rfl) (fun _ _ _ h => h) (Or.inl ⟨by rfl, ?hyb6⟩) hHeld ?restb6; (case hyb6 => (intro w hSw; (try dsimp only at hSw); go_simp; all_goals (with_reducible rfl))); simp only [Act.put, List.getElem_toArray, List.getElem_cons_zero, List.getElem_cons_succ, List.setIfInBounds_toArray, List.set_cons_zero, List.set_cons_succ]
      refine wpAnyH_take (i := 7) (v := ?vvb7) rfl (by kernel_rfl) (by kernel_rfl) (by kernel_rfl) (fun _ _ _ h => h) (Or.inl ⟨by rfl, ?hyb7⟩) hHeld ?restb7; (case hyb7 => (intro w hSw; (try dsimp only at hSw); go_simp; all_goals (with_reducible rfl))); simp only [Act.put, List.getElem_toArray, List.getElem_cons_zero, List.getElem_cons_succ, List.setIfInBounds_toArray, List.set_cons_zero, List.set_cons_succ]
      refine wpAnyH_take (i := 8) (v := ?vvb8) rfl (by kernel_rfl) (by kernel_rfl) (by kernel_rfl) (fun _ _ _ h => h) (Or.inl ⟨by rfl, ?hyb8⟩) hHeld ?restb8; (case hyb8 => (intro w hSw; (try dsimp only at hSw); go_simp; all_goals (with_reducible rfl))); simp only [Act.put, List.getElem_toArray, List.getElem_cons_zero, List.getElem_cons_succ, List.setIfInBounds_toArray, List.set_cons_zero, List.set_cons_succ]
      refine wpAnyH_done (by kernel_rfl) ?_ _
      clear hHeld
      show wpAnyIn _ _ _ _ _ _ _ _ _ _
      have f1 : w1.drew.frozen? ⟨bs, 0, none⟩ = false := f0
      have d1 : w1.drew.cell? ⟨bs, 0, none⟩ = some (.string { data := #[97, 32, 98, 10] }) := c0
      refine wpAnyIn_ready (rs := [9]) (by kernel_rfl) (by simp) ?_
      refine AllReadyIn.cons rfl (fun K hK => ?_) AllReadyIn.nil
      go_simp
      refine hK _ _ ?_
      clear hK K
      refine wpAnyIn_done (by kernel_rfl) ?_ _
      obtain ⟨W2, hW2⟩ : ∃ W2 : World, W2 = (w1.setCell ⟨bs, 0, none⟩ (.string { data := #[] })).drew := ⟨_, rfl⟩
      rw [show ByteArray.empty = { data := #[] } from rfl, show ({ data := #[97, 32, 98, 10] } : ByteArray).extract 0 4 = { data := #[97, 32, 98, 10] } from by kernel_rfl, ← hW2]
      have hb2 : W2.heap[bs]? = some (.cells #[.string { data := #[] }] 9 (0, 0)) := by rw [hW2]; exact heap_setCell_same w1 bs 0 _ _ _ Hb.out
      have hj2 : J0 W2 := by
        rw [hW2]
        exact (HJ.out _ _ (some bs) (only_drew (grownBy_setCell' w1 bs _)) (fun r e => by cases e; rfl)).1 Hj.out
      have hy := HY.out W2 hj2 hb2
      obtain ⟨fn, tmps, assign, body, hy, hR⟩ := hy
      have HR := Lib.hid hR
      have Hl1 : Hid (lnLeft bs w1 = 4) := Lib.hid (by simp only [lnLeft, cell_of_row _ _ 0 _ _ _ Hb.out]; rfl)
      clear hR hb2 hj2 hW2 hw4 f1 d1 f0 c0
      gi_wp2_with fail
      refine HR.out.mono ?_
      rintro e W3 ⟨rfl, hj3, hb3⟩
      have Hj3 := Lib.hid hj3
      have Hb3 := Lib.hid hb3
      clear hj3 hb3 hy
      gi_wp2
      go_roundw
      case rel => exact .inr ⟨Hb3.out, Hj3.out⟩
      case measure => rw [Hl1.out]; simp only [lnLeft, cell_of_row _ _ 0 _ _ _ Hb3.out]; decide
    · have c0 := cell_of_row _ _ 0 _ _ _ hb
      have Hj := Lib.hid hj
      clear hb hj
      gi_wp2
      go_end0
      exact ⟨⟨_, rfl⟩, Hj.out⟩
end Go.Proofs.YtfmkmhhghmdakaaGreatDoor
namespace Go.Proofs.YtfmkmhhghmdakaaGreatDoor
set_option maxHeartbeats 64000000
set_option maxRecDepth 100000
open Go.RowKit Go.Shelf
set_option linter.unusedVariables false
set_option linter.unusedSimpArgs false
attribute [local go_sem] Oper.semAt_some
theorem Tryz.infoStrs : (Tryz.prog.info? 97).map (fun i => (i.zero, i.size, i.bytes)) = some (some (.slice none 0 0), 1, 24) := by kernel_rfl
theorem split_any (w : World) : Calls Tryz.prog 62 #[.string { data := #[97, 32, 98, 10] }] w fun e w' => (∃ A c, e = .returned (.tuple #[.slice A 1 c, .int .i64 0])) ∧ Below w.heap.size w w' := by
  obtain ⟨i0, hi, hz0, hz1, hz2⟩ := info_parts Tryz.infoStrs
  refine (callsIn_wide (n := 20)).1 ?_
  have f1 : Fence.wide.fn 153 := trivial
  have f2 : Fence.wide.fn 154 := trivial
  have f3 : Fence.wide.fn 155 := trivial
  have f4 : Fence.wide.fn 158 := trivial
  have f5 : Fence.wide.fn 160 := trivial
  have f6 : Fence.wide.fn 159 := trivial
  refine callsIn_of_wp_marks Tryz.func62 rfl trivial ?_ rfl
  simp only [Tryz.ntmps62, List.size_toArray, List.length_cons, List.length_nil, Nat.reduceAdd, Nat.reduceSub, Array.replicate_succ, Array.replicate_zero, List.push_toArray, List.append_toArray, List.nil_append, List.cons_append]
  gi_wp2_with (first
    | (gi_at_call 153; refine (callsIn_wide.2 (countT_any _)).mono ?_; rintro e w1 ⟨rfl, rfl⟩)
    | (gi_at_call 154; refine (callsIn_wide.2 (hasT_any _)).mono ?_; rintro e w1 ⟨rfl, rfl⟩)
    | (gi_at_call 155; refine (callsIn_wide.2 (containsFT_any _)).mono ?_; rintro e w2 ⟨rfl, hb2⟩; have Hb2 := Lib.hid hb2; clear hb2)
    | (gi_at_call 158; refine (callsIn_wide.2 (linesB_any _)).mono ?_; rintro e w3 ⟨rfl, hw3⟩; have Hw3 := Lib.hid hw3; clear hw3)
    | fail)
  obtain ⟨w, rfl⟩ : ∃ w : World, w = w1 := ⟨_, rfl⟩
  have hbs : w3.heap[w2.heap.size + 1]? = some (.cells #[.string { data := #[97, 32, 98, 10] }] 9 (0, 0)) := by rw [Hw3.out]; exact heap_alloc2_new w2 _ _
  have hbo : w3.heap[w2.heap.size]? = some (.cells #[.slice none 0 0] 119 (0, 0)) := by rw [Hw3.out]; exact (Below.heap_alloc _ _ _ (by simp)).trans (heap_alloc_new w2 _)
  have hb3 : Below w.heap.size w w3 := by rw [Hw3.out]; exact (Hb2.out.alloc Hb2.out.size _).alloc (by have := Hb2.out.size; simp; omega) _
  have hs2 := Hb2.out.size
  have hs3 : w3.heap.size = w2.heap.size + 2 := by rw [Hw3.out]; simp
  have Hb3 := Lib.hid hb3
  have Hbs := Lib.hid hbs
  have Hbo := Lib.hid hbo
  have Hs3 := Lib.hid hs3
  clear hbs hbo hb3 hs3
  refine range_once rfl (by omega) (gf := 238) (lb := #[.pointer (some ⟨w2.heap.size + 1, 0, none⟩)]) rfl trivial (enters_of Tryz.func238 (by kernel_rfl) rfl)
    #[.string { data := #[97, 32, 98, 10] }] rfl (w2.heap.size + 1) _ #[.string { data := #[] }] _ Hbs.out
    (fun W => W.heap[w2.heap.size]? = some (.cells #[.slice none 0 0] 119 (0, 0)) ∧ Below w.heap.size w W)
    (fun W => (∃ A c, W.heap[w2.heap.size]? = some (.cells #[.slice A 1 c] 119 (0, 0))) ∧ Below w.heap.size w W) ?abide ⟨Hbo.out, Hb3.out⟩
    (fun l W J0 J1 h1 h2 h3 h4 => lines1_in l (w2.heap.size + 1) _ (by omega) W J0 J1 h1 h2 h3 h4)
    { tmps := #[.string { data := #[97, 32, 98, 10] }, undef, .slice none 0 0, .int .i64 0, .pointer (some ⟨w2.heap.size, 0, none⟩), .string { data := #[97, 32, 98, 10] }, .string { data := #[97, 32, 98, 10] }, .int .i64 4, .bool false, .bool false, .string { data := #[97, 32, 98, 10] }, .int .i64 1, .bool false, .bool false, .string { data := #[97, 32, 98, 10] }, .bool true, .bool true, .string { data := #[97, 32, 98, 10] }, .bool true, .bool false, .bool false, .bool false, .string { data := #[97, 32, 98, 10] }, .bool false, .bool false, .string { data := #[97, 32, 98, 10] }, .func (.func 238) #[] #[.pointer (some ⟨w2.heap.size + 1, 0, none⟩)], .string { data := #[97, 32, 98, 10] }, undef, undef, undef, undef, undef, undef, undef, undef, undef, undef, undef, undef, undef, undef], defers := [] } ?assign ?body ?done
  case abide =>
    intro W W' row hg hr
    have hne : ∀ q, row = some q → w.heap.size ≤ q ∧ q ≠ w2.heap.size := fun q e => by
      rcases hr q e with h | ⟨h, _⟩
      · omega
      · have := Hs3.out; omega
    refine ⟨fun h => ⟨(hg.block _ (Array.getElem?_eq_some_iff.1 h.1).1 (fun e => (hne _ e.symm).2 rfl)).trans h.1, h.2.grown hg h.2.size (fun q e => (hne q e).1)⟩, fun h => ⟨?_, h.2.grown hg h.2.size (fun q e => (hne q e).1)⟩⟩
    obtain ⟨A, c, hc⟩ := h.1
    exact ⟨A, c, (hg.block _ (Array.getElem?_eq_some_iff.1 hc).1 (fun e => (hne _ e.symm).2 rfl)).trans hc⟩
  case assign =>
    intro l W K hK
    gi_wp2
    exact hK
  case body =>
    rintro l W hl ⟨r, hrl⟩ ⟨hbo, hbw⟩ hbx
    have Hbo := Lib.hid hbo
    have Hbw := Lib.hid hbw
    have Hbx := Lib.hid hbx
    clear hbo hbw hbx
    gi_wp2_with (first
      | (gi_at_call 160; refine (CallsIn.inRound l (callsIn_wide.2 (trimT_any _))).mono ?_; rintro e w4 ⟨rfl, rfl⟩)
      | (gi_at_call 159; refine (CallsIn.inRound l (callsIn_wide.2 (cutT_any _))).mono ?_; rintro e w4 ⟨rfl, rfl⟩)
      | fail)
    have b0 := cell_of_row _ _ 0 _ _ _ Hbo.out
    have hsW := Hbw.out.size
    have hlo : w2.heap.size < w4.heap.size := (Array.getElem?_eq_some_iff.1 Hbo.out).1
    have hlx : w2.heap.size + 1 < w4.heap.size := (Array.getElem?_eq_some_iff.1 Hbx.out).1
    refine wpIn_region_head (wideF_round l) (S := fun w' => w'.cell? ⟨w2.heap.size, 0, none⟩ = some (.slice none 0 0)) 6 (by kernel_rfl) (by kernel_rfl) (fun _ _ h => h) ?_
    have hHeld : (fun w' : World => w'.cell? ⟨w2.heap.size, 0, none⟩ = some (.slice none 0 0)) w4.drew := b0
    simp only [List.take_succ_cons, List.take_zero, List.replicate]
    refine wpAnyH_take (i := 0) (v := ?vvc0) rfl (by kernel_rfl) (by kernel_rfl) (by kernel_rfl) (fun _ _ _ h => h) (Or.inl ⟨by rfl, ?hyc0⟩) hHeld ?restc0; (case hyc0 => (intro w hSw; (try dsimp only at hSw); go_simp; all_goals (with_reducible rfl))); simp only [Act.put, List.getElem_toArray, List.getElem_cons_zero, List.getElem_cons_succ, List.setIfInBounds_toArray, List.set_cons_zero, List.set_cons_succ]
    refine wpAnyH_take (i := 1) (v := ?vvc1) rfl (by kernel_rfl) (by kernel_rfl) (by kernel_rfl) (fun _ _ _ h => h) (Or.inl ⟨by rfl, ?hyc1⟩) hHeld ?restc1; (case hyc1 => (intro w hSw; (try dsimp only at hSw); go_simp; all_goals (with_reducible rfl))); simp only [Act.put, List.getElem_toArray, List.getElem_cons_zero, List.getElem_cons_succ, List.setIfInBounds_toArray, List.set_cons_zero, List.set_cons_succ]
    refine wpAnyH_ready (rs := [2]) (by kernel_rfl) (by simp) ?_; refine AllReadyH.cons rfl (fun K hK => ?_) AllReadyH.nil
    go_simp
    refine (splitS_any _).mono ?_
    rintro e w5 ⟨rfl, hb5, hr5⟩
    have hb5' : Below w4.heap.size w4 w5 := ⟨hb5.os, hb5.tape, hb5.output, hb5.size, hb5.block⟩
    have Hb5 := Lib.hid hb5'
    have Hr5 := Lib.hid hr5
    clear hb5 hb5' hr5
    have hbo5 := (Hb5.out.block _ hlo).trans Hbo.out
    have Hbo5 := Lib.hid hbo5
    clear hbo5
    refine hK.out _ _ (cell_of_row _ _ 0 _ _ _ Hbo5.out) (fun hHeld => ?_)
    clear hK K
    (try simp only [Act.put, List.getElem_toArray, List.getElem_cons_zero, List.getElem_cons_succ, List.setIfInBounds_toArray, List.set_cons_zero, List.set_cons_succ])
    refine wpAnyH_ready (rs := [3]) (by kernel_rfl) (by simp) ?_; refine AllReadyH.cons rfl (fun K hK => ?_) AllReadyH.nil
    go_simp
    refine (deleteW_any _ _ Hr5.out).mono ?_
    rintro e w6 ⟨rfl, rfl⟩
    refine hK.out _ _ (cell_of_row _ _ 0 _ _ _ Hbo5.out) (fun hHeld => ?_)
    clear hK K
    (try simp only [Act.put, List.getElem_toArray, List.getElem_cons_zero, List.getElem_cons_succ, List.setIfInBounds_toArray, List.set_cons_zero, List.set_cons_succ])
    refine wpAnyH_ready (rs := [4]) (by kernel_rfl) (by simp) ?_; refine AllReadyH.cons rfl (fun K hK => ?_) AllReadyH.nil
    go_simp
    obtain ⟨w7, hw7⟩ : ∃ w7 : World, w7 = w6.alloc (.cells #[.slice (some ⟨w4.heap.size, 0, none⟩) 2 2] 97) := ⟨_, rfl⟩
    rw [← hw7]
    have Hw7 := Lib.hid hw7
    have hs7 : w7.heap.size = w6.heap.size + 1 := by rw [hw7]; simp
    have Hs7 := Lib.hid hs7
    have h56 := Hb5.out.size
    have hb7 : Below w4.heap.size w4 w7 := by rw [hw7]; exact Hb5.out.alloc (Nat.le_trans (Nat.le_refl _) h56) _
    have Hb7 := Lib.hid hb7
    have Hbo7 := Lib.hid ((hb7.block _ hlo).trans Hbo.out)
    have h46 : w4.heap.size ≤ w6.heap.size := h56
    clear hw7 hs7 hb7 h56
    refine hK.out _ _ (cell_of_row _ _ 0 _ _ _ Hbo7.out) (fun hHeld => ?_)
    clear hK K
    (try simp only [Act.put, List.getElem_toArray, List.getElem_cons_zero, List.getElem_cons_succ, List.setIfInBounds_toArray, List.set_cons_zero, List.set_cons_succ])
    refine wpAnyH_ready (rs := [5]) (by kernel_rfl) (by simp) ?_; refine AllReadyH.cons rfl (fun K hK => ?_) AllReadyH.nil
    refine step_append_any _ rfl (.tmp 35) (.tmp 39) 119 rfl w4.heap.size 97 i0 (.slice none 0 0) 1 24 Tryz.underlying119 hi hz0 hz1 hz2 rfl (by omega) (.slice none 0 0) 0 [] rfl ⟨by simp, .inl ⟨rfl, rfl⟩⟩ w7.heap.size _ 1 1 [.slice (some ⟨w4.heap.size, 0, none⟩) 2 2] rfl ⟨rfl, fun _ => ⟨_, rfl, (by show w6.heap.size < w7.heap.size; rw [Hs7.out]; exact Nat.lt_succ_self _), fun j u hu => (by rw [Hw7.out]; exact news_any _ _ _ j u hu)⟩⟩ (by simp [Value.oneCell']) (by simp only [maxLen]; omega) (by omega) (by have := Hs7.out; omega) ?_
    intro v8 w8 hown8 hg8 hat8
    obtain ⟨A8, c8, rfl, _, _, _⟩ := own_slice hown8
    have hB8 : Below w4.heap.size w4 w8 := Hb7.out.grown hg8 (by have := Hs7.out; omega) (fun q e => by cases e)
    have HB8 := Lib.hid hB8
    have Hbo8 := Lib.hid ((hB8.block _ hlo).trans Hbo.out)
    have Hbx8 := Lib.hid ((hB8.block _ hlx).trans Hbx.out)
    have hs8 := hB8.size
    clear hown8 hg8 hat8 hB8
    refine hK.out _ _ (cell_of_row _ _ 0 _ _ _ Hbo8.out) (fun hHeld => ?_)
    clear hK K
    (try simp only [Act.put, List.getElem_toArray, List.getElem_cons_zero, List.getElem_cons_succ, List.setIfInBounds_toArray, List.set_cons_zero, List.set_cons_succ])
    refine wpAnyH_done (by kernel_rfl) ?_ _
    clear hHeld
    show wpAnyIn _ _ _ _ _ _ _ _ _ _
    have d8 := cell_of_row _ _ 0 _ _ _ Hbo8.out
    have f8 := frozen_of_row _ _ 0 _ _ Hbo8.out
    refine wpAnyIn_ready (rs := [6]) (by kernel_rfl) (by simp) ?_
    refine AllReadyIn.cons rfl (fun K hK => ?_) AllReadyIn.nil
    go_simp
    refine hK _ _ ?_
    clear hK K
    refine wpAnyIn_done (by kernel_rfl) ?_ _
    gi_wp2
    have hg9 := grownBy_setCell' w8 w2.heap.size (.slice A8 1 c8)
    have hw2 := Hs3.out
    refine ⟨⟨by have := hg9.size; omega, fun k o hk ho hc => ?_⟩, ?_, ⟨A8, c8, ?_⟩, ?_⟩
    · exact (hg9.block k (by have := (Array.getElem?_eq_some_iff.1 ho).1; omega) (fun e => by injection e; omega)).trans ((HB8.out.block k (Array.getElem?_eq_some_iff.1 ho).1).trans ho)
    · exact (hg9.block _ (by omega) (fun e => by injection e; omega)).trans Hbx8.out
    · exact heap_setCell_same w8 w2.heap.size 0 _ _ _ Hbo8.out
    · exact (Hbw.out.trans (HB8.out.mono hsW)).grown hg9 (by omega) (fun q e => by injection e; omega)
  case done =>
    rintro D W hD ⟨⟨A, c, hc⟩, hbw⟩ hK
    have Hbw := Lib.hid hbw
    have HK := Lib.hid hK
    have c0 := cell_of_row _ _ 0 _ _ _ hc
    clear hc hbw hK
    gi_wp2
    refine ⟨by simp, .inl ⟨_, _, rfl, run_takeDeferred HK.out, ?_⟩⟩
    refine ⟨_, results_tmp2 rfl _ _ _, ?_⟩
    exact ⟨⟨A, c, rfl⟩, Hbw.out.grown (grownBy_putObj' _ D _) Hbw.out.size (fun g e => by injection e with e; have := Hs3.out; omega)⟩
end Go.Proofs.YtfmkmhhghmdakaaGreatDoor
