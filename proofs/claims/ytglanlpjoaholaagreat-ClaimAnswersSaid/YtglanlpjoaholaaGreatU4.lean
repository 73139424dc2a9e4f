/- Contracts: combine, Union, Both, Without (regions). -/
import Derived.Test.YtglanlpjoaholaaGreatU3
namespace Go.Proofs.YtglanlpjoaholaaGreat
open Go.RowKit
set_option linter.unusedVariables false
set_option linter.unusedSimpArgs false

/-- Two boxes of regions, and one for a result. -/
structure Bx3 (w W : World) (A : Option Addr) (n c : Nat) (B : Option Addr) (m d : Nat) : Prop where
  low : Below w.heap.size w W
  size : w.heap.size + 1 + 1 < W.heap.size
  b0 : W.heap[w.heap.size]? = some (.cells #[.slice A n c] 33 (0, 0))
  b1 : W.heap[w.heap.size + 1]? = some (.cells #[.slice B m d] 33 (0, 0))
  b2 : W.heap[w.heap.size + 1 + 1]? = some (.cells #[.slice none 0 0] 33 (0, 0))
theorem Bx3.make (w : World) (A : Option Addr) (n c : Nat) (B : Option Addr) (m d : Nat) : Bx3 w (((w.alloc (.cells #[.slice A n c] 33)).alloc (.cells #[.slice B m d] 33)).alloc (.cells #[.slice none 0 0] 33)) A n c B m d := by
  refine ⟨(by repeat' (first | with_reducible exact Below.refl _ _ | with_reducible refine below_drewN ?_ _ | with_reducible refine Below.drew ?_ | with_reducible refine Below.alloc ?_ ?_ _ | with_reducible refine Below.setCell ?_ ?_ _ | with_reducible refine Below.trans ?_ (Below.mono (by with_reducible assumption) ?_) | (simp; done) | (simp; omega) | omega)), by simp, (Below.heap_alloc _ _ _ (by simp; omega)).trans ((Below.heap_alloc _ _ _ (by simp)).trans (heap_alloc_new w _)), (Below.heap_alloc _ _ _ (by simp)).trans (heap_alloc2_new w _ _), ?_⟩
  have h3 := heap_alloc_new ((w.alloc (.cells #[.slice A n c] 33)).alloc (.cells #[.slice B m d] 33)) (.cells #[.slice none 0 0] 33)
  simpa using h3
theorem Bx3.below {w W W' : World} {A : Option Addr} {n c : Nat} {B : Option Addr} {m d : Nat} (h : Bx3 w W A n c B m d) (hb : Below W.heap.size W W') : Bx3 w W' A n c B m d :=
  have hs := h.size
  ⟨h.low.trans (hb.mono h.low.size), Nat.lt_of_lt_of_le h.size hb.size, (hb.block _ (by omega)).trans h.b0, (hb.block _ (by omega)).trans h.b1, (hb.block _ (by omega)).trans h.b2⟩
section
variable {w W : World} {A : Option Addr} {n c : Nat} {B : Option Addr} {m d : Nat} (h : Bx3 w W A n c B m d)
include h
theorem Bx3.c0 : W.cell? ⟨w.heap.size, 0, none⟩ = some (.slice A n c) := cell_of_row _ _ 0 _ _ _ h.b0
theorem Bx3.c1 : W.cell? ⟨w.heap.size + 1, 0, none⟩ = some (.slice B m d) := cell_of_row _ _ 0 _ _ _ h.b1
theorem Bx3.c2 : W.cell? ⟨w.heap.size + 1 + 1, 0, none⟩ = some (.slice none 0 0) := cell_of_row _ _ 0 _ _ _ h.b2
theorem Bx3.f2 : W.frozen? ⟨w.heap.size + 1 + 1, 0, none⟩ = false := frozen_of_row _ _ 0 _ _ h.b2
theorem Bx3.put (v : Value) : (W.setCell ⟨w.heap.size + 1 + 1, 0, none⟩ v).cell? ⟨w.heap.size + 1 + 1, 0, none⟩ = some v := by
  rw [cell_of_row _ (w.heap.size + 1 + 1) 0 _ _ _ (heap_setCell_same W (w.heap.size + 1 + 1) 0 _ _ v h.b2)]
  rfl
end

set_option maxHeartbeats 8000000 in
set_option maxRecDepth 100000 in
theorem combine_any (A B : Option Addr) (n c m d f : Nat) (lb : Array Value) (how : Bool → Bool → Bool) (a b : List R4) (w : World) (hA : SlR w A n c a) (hB : SlR w B m d b)
    (eg : ∀ args w, (callFunc f args).run Tryz.prog w = .ok (.enter f args) w) (HF : BoolFn f lb how w) :
    Calls Tryz.prog 84 #[.agg #[.slice A n c], .agg #[.slice B m d], .func (.func f) #[] lb] w (RegPost w (combineP how a b)) := by
  have hna := hA.len
  have hnb := hB.len
  have HA := Lib.hid hA
  have HB := Lib.hid hB
  have HFh := Lib.hid HF
  have Eg := Lib.hid eg
  have HVa := Lib.hid (fun W (hW : Below w.heap.size w W) => valid_any A n c a W (HA.out.below hW))
  have HVb := Lib.hid (fun W (hW : Below w.heap.size w W) => valid_any B m d b W (HB.out.below hW))
  have Hx : Hid (combineP how a b = if validP a && validP b then (if 120 < (chooseP how a b).length then ([], 1) else (chooseP how a b, 0)) else ([], 7)) := Lib.hid rfl
  have Hva : Hid (validP a = true → (n ≤ 750 ∧ ∀ q ∈ a, q.l < q.r)) := Lib.hid (fun h => by
    unfold validP at h
    simp only [Bool.and_eq_true, decide_eq_true_eq] at h
    exact ⟨by omega, ok_pos h.1.2⟩)
  have Hvb : Hid (validP b = true → (m ≤ 750 ∧ ∀ q ∈ b, q.l < q.r)) := Lib.hid (fun h => by
    unfold validP at h
    simp only [Bool.and_eq_true, decide_eq_true_eq] at h
    exact ⟨by omega, ok_pos h.1.2⟩)
  generalize combineP how a b = res at *
  clear hA hB HF eg
  obtain ⟨va, hva⟩ : ∃ va, validP a = va := ⟨_, rfl⟩
  obtain ⟨vb, hvb⟩ : ∃ vb, validP b = vb := ⟨_, rfl⟩
  rw [hva] at HVa Hx Hva
  rw [hvb] at HVb Hx Hvb
  clear hva hvb
  cases va with
  | false =>
    have e0 : res = ([], 7) := by rw [Hx.out]; rfl
    subst e0
    go_enter Tryz.func84, Tryz.ntmps84
    go_upto_region 1 with fail
    obtain ⟨w1, hw1⟩ : ∃ w1 : World, w1 = ((w.alloc (.cells #[.slice A n c] 33)).alloc (.cells #[.slice B m d] 33)).alloc (.cells #[.slice none 0 0] 33) := ⟨_, rfl⟩
    rw [← hw1]
    have Hb1 : Hid (Bx3 w w1 A n c B m d) := Lib.hid (by rw [hw1]; exact Bx3.make w A n c B m d)
    clear hw1
    have c0 := Hb1.out.c0
    have c1 := Hb1.out.c1
    go_wp2_with (first
      | (go_at_call 68
         refine (HVa.out _ Hb1.out.low).mono ?_
         rintro e w2 ⟨rfl, hb2⟩
         have Hb2 := Lib.hid (Hb1.out.below hb2)
         have c02 := Hb2.out.c0
         have c12 := Hb2.out.c1
         have c22 := Hb2.out.c2
         have f22 := Hb2.out.f2
         have csame := Hb2.out.put (.slice none 0 0)
         clear hb2)
      | fail)
    refine bodyPost_ret (v := .tuple #[.agg #[.slice none 0 0], .int .i64 7]) (by simp [results, Tryz.results84, go_sem, *]) rfl ?_
    exact ⟨_, rfl, World.ownsRow_nil _ _ _ _, Hb2.out.low.setCell (by show w.heap.size ≤ w.heap.size + 1 + 1; omega) _⟩
  | true =>
    obtain ⟨hn7, ha⟩ := Hva.out rfl
    have Ha := Lib.hid ha
    clear ha Hva
    cases vb with
    | false =>
      have e0 : res = ([], 7) := by rw [Hx.out]; rfl
      subst e0
      go_enter Tryz.func84, Tryz.ntmps84
      go_upto_region 1 with fail
      obtain ⟨w1, hw1⟩ : ∃ w1 : World, w1 = ((w.alloc (.cells #[.slice A n c] 33)).alloc (.cells #[.slice B m d] 33)).alloc (.cells #[.slice none 0 0] 33) := ⟨_, rfl⟩
      rw [← hw1]
      have Hb1 : Hid (Bx3 w w1 A n c B m d) := Lib.hid (by rw [hw1]; exact Bx3.make w A n c B m d)
      clear hw1
      have c0 := Hb1.out.c0
      have c1 := Hb1.out.c1
      go_wp2_with (first
        | (go_at_call_of 68 (Value.slice A n c)
           refine (HVa.out _ Hb1.out.low).mono ?_
           rintro e w2 ⟨rfl, hb2⟩
           have Hb2 := Lib.hid (Hb1.out.below hb2)
           have c02 := Hb2.out.c0
           have c12 := Hb2.out.c1
           clear hb2)
        | (go_at_call_of 68 (Value.slice B m d)
           refine (HVb.out _ Hb2.out.low).mono ?_
           rintro e w3 ⟨rfl, hb3⟩
           have Hb3 := Lib.hid (Hb2.out.below hb3)
           have c03 := Hb3.out.c0
           have c13 := Hb3.out.c1
           have c23 := Hb3.out.c2
           have f23 := Hb3.out.f2
           have csame := Hb3.out.put (.slice none 0 0)
           clear hb3)
        | fail)
      refine bodyPost_ret (v := .tuple #[.agg #[.slice none 0 0], .int .i64 7]) (by simp [results, Tryz.results84, go_sem, *]) rfl ?_
      exact ⟨_, rfl, World.ownsRow_nil _ _ _ _, Hb3.out.low.setCell (by show w.heap.size ≤ w.heap.size + 1 + 1; omega) _⟩
    | true =>
      obtain ⟨hm7, hb⟩ := Hvb.out rfl
      have Hbp := Lib.hid hb
      clear hb Hvb
      have HC := Lib.hid (fun W (hW : Below w.heap.size w W) => choose_any A B n c m d f lb how a b W (HA.out.below hW) (HB.out.below hW) hn7 hm7 Ha.out Hbp.out Eg.out (HFh.out.below hW))
      have Hx2 : Hid (res = if 120 < (chooseP how a b).length then ([], 1) else (chooseP how a b, 0)) := Lib.hid (by rw [Hx.out]; rfl)
      clear Hx
      generalize chooseP how a b = cl at *
      by_cases hbg : 120 < cl.length
      · have e0 : res = ([], 1) := by rw [Hx2.out, if_pos hbg]
        subst e0
        go_enter Tryz.func84, Tryz.ntmps84
        go_upto_region 1 with fail
        obtain ⟨w1, hw1⟩ : ∃ w1 : World, w1 = ((w.alloc (.cells #[.slice A n c] 33)).alloc (.cells #[.slice B m d] 33)).alloc (.cells #[.slice none 0 0] 33) := ⟨_, rfl⟩
        rw [← hw1]
        have Hb1 : Hid (Bx3 w w1 A n c B m d) := Lib.hid (by rw [hw1]; exact Bx3.make w A n c B m d)
        clear hw1
        have c0 := Hb1.out.c0
        have c1 := Hb1.out.c1
        go_wp2_with (first
          | (go_at_call_of 68 (Value.slice A n c)
             refine (HVa.out _ Hb1.out.low).mono ?_
             rintro e w2 ⟨rfl, hb2⟩
             have Hb2 := Lib.hid (Hb1.out.below hb2)
             have c02 := Hb2.out.c0
             have c12 := Hb2.out.c1
             clear hb2)
          | (go_at_call_of 68 (Value.slice B m d)
             refine (HVb.out _ Hb2.out.low).mono ?_
             rintro e w3 ⟨rfl, hb3⟩
             have Hb3 := Lib.hid (Hb2.out.below hb3)
             have c03 := Hb3.out.c0
             have c13 := Hb3.out.c1
             clear hb3)
          | (go_at_call 45
             refine (HC.out _ Hb3.out.low).mono ?_
             rintro e w4 ⟨v4, rfl, hown4, hb4⟩
             obtain ⟨D, dc, rfl, _⟩ := SlR.of_own hown4
             have Hb4 := Lib.hid (Hb3.out.below hb4)
             clear hown4 hb4)
          | (go_at_call 44
             refine (limited_big D cl.length dc _ hbg).mono ?_
             rintro e w5 ⟨rfl, hb5⟩
             have Hb5 := Lib.hid (Hb4.out.below hb5)
             have c25 := Hb5.out.c2
             have f25 := Hb5.out.f2
             have csame := Hb5.out.put (.slice none 0 0)
             clear hb5)
          | fail)
        refine bodyPost_ret (v := .tuple #[.agg #[.slice none 0 0], .int .i64 1]) (by simp [results, Tryz.results84, go_sem, *]) rfl ?_
        exact ⟨_, rfl, World.ownsRow_nil _ _ _ _, Hb5.out.low.setCell (by show w.heap.size ≤ w.heap.size + 1 + 1; omega) _⟩
      · have hbg' : cl.length ≤ 120 := by omega
        have e0 : res = (cl, 0) := by rw [Hx2.out, if_neg hbg]
        subst e0
        go_enter Tryz.func84, Tryz.ntmps84
        go_upto_region 1 with fail
        obtain ⟨w1, hw1⟩ : ∃ w1 : World, w1 = ((w.alloc (.cells #[.slice A n c] 33)).alloc (.cells #[.slice B m d] 33)).alloc (.cells #[.slice none 0 0] 33) := ⟨_, rfl⟩
        rw [← hw1]
        have Hb1 : Hid (Bx3 w w1 A n c B m d) := Lib.hid (by rw [hw1]; exact Bx3.make w A n c B m d)
        clear hw1
        have c0 := Hb1.out.c0
        have c1 := Hb1.out.c1
        go_wp2_with (first
          | (go_at_call_of 68 (Value.slice A n c)
             refine (HVa.out _ Hb1.out.low).mono ?_
             rintro e w2 ⟨rfl, hb2⟩
             have Hb2 := Lib.hid (Hb1.out.below hb2)
             have c02 := Hb2.out.c0
             have c12 := Hb2.out.c1
             clear hb2)
          | (go_at_call_of 68 (Value.slice B m d)
             refine (HVb.out _ Hb2.out.low).mono ?_
             rintro e w3 ⟨rfl, hb3⟩
             have Hb3 := Lib.hid (Hb2.out.below hb3)
             have c03 := Hb3.out.c0
             have c13 := Hb3.out.c1
             clear hb3)
          | (go_at_call 45
             refine (HC.out _ Hb3.out.low).mono ?_
             rintro e w4 ⟨v4, rfl, hown4, hb4⟩
             obtain ⟨D, dc, rfl, _⟩ := SlR.of_own hown4
             have Hown4 := Lib.hid hown4
             have Hb4 := Lib.hid (Hb3.out.below hb4)
             clear hown4 hb4)
          | (go_at_call 44
             refine (limited_ok D cl.length dc _ hbg').mono ?_
             rintro e w5 ⟨rfl, hb5⟩
             have Hb5 := Lib.hid (Hb4.out.below hb5)
             have Hown5 := Lib.hid (ownsRow_below Hown4.out hb5)
             have c25 := Hb5.out.c2
             have f25 := Hb5.out.f2
             have csame := Hb5.out.put (.slice D cl.length dc)
             clear hb5)
          | fail)
        refine bodyPost_ret (v := .tuple #[.agg #[.slice D cl.length dc], .int .i64 0]) (by simp [results, Tryz.results84, go_sem, *]) rfl ?_
        exact ⟨_, rfl, own_rebase (ownsRow_setCell_below Hown5.out (a := ⟨w.heap.size + 1 + 1, 0, none⟩) Hb3.out.size _) (Nat.le_trans Hb3.out.low.size (Nat.le_refl _)), Hb5.out.low.setCell (by show w.heap.size ≤ w.heap.size + 1 + 1; omega) _⟩

set_option maxHeartbeats 1000000 in
theorem andB_fn (w : World) : BoolFn 85 #[] andB w := by
  intro W x y _
  show Calls Tryz.prog 85 #[.bool x, .bool y] W _
  cases x <;> cases y
  all_goals go_enter Tryz.func85, Tryz.ntmps85
  all_goals go_wp2
  all_goals go_ret
  all_goals exact ⟨rfl, (by repeat' (first | with_reducible exact Below.refl _ _ | with_reducible refine below_drewN ?_ _ | with_reducible refine Below.drew ?_ | with_reducible refine Below.alloc ?_ ?_ _ | with_reducible refine Below.setCell ?_ ?_ _ | with_reducible refine Below.trans ?_ (Below.mono (by with_reducible assumption) ?_) | (simp; done) | (simp; omega) | omega))⟩
set_option maxHeartbeats 2000000 in
set_option maxRecDepth 100000 in
theorem both_any (A B : Option Addr) (n c m d : Nat) (a b : List R4) (w : World) (hA : SlR w A n c a) (hB : SlR w B m d b) :
    Calls Tryz.prog 54 #[.agg #[.slice A n c], .agg #[.slice B m d]] w (RegPost w (combineP andB a b)) := by
  have HA := Lib.hid hA
  have HB := Lib.hid hB
  have eg : ∀ args w, (callFunc 85 args).run Tryz.prog w = .ok (.enter 85 args) w := enters_of Tryz.func85 (by kernel_rfl) rfl
  have HC := Lib.hid (fun W (hW : Below w.heap.size w W) => combine_any A B n c m d 85 #[] andB a b W (HA.out.below hW) (HB.out.below hW) eg (andB_fn W))
  generalize combineP andB a b = res at *
  obtain ⟨cl, er⟩ := res
  clear hA hB eg
  go_enter Tryz.func54, Tryz.ntmps54
  go_upto_region 1 with fail
  obtain ⟨w1, hw1⟩ : ∃ w1 : World, w1 = ((w.alloc (.cells #[.slice A n c] 33)).alloc (.cells #[.slice B m d] 33)).alloc (.cells #[.slice none 0 0] 33) := ⟨_, rfl⟩
  rw [← hw1]
  have Hb1 : Hid (Bx3 w w1 A n c B m d) := Lib.hid (by rw [hw1]; exact Bx3.make w A n c B m d)
  clear hw1
  have c0 := Hb1.out.c0
  have c1 := Hb1.out.c1
  go_wp2_with (first
    | (go_at_call 84
       refine (HC.out _ Hb1.out.low).mono ?_
       rintro e w2 ⟨v2, rfl, hown2, hb2⟩
       obtain ⟨D, dc, rfl, _⟩ := SlR.of_own hown2
       have Hb2 := Lib.hid (Hb1.out.below hb2)
       have Hown2 := Lib.hid hown2
       have c22 := Hb2.out.c2
       have f22 := Hb2.out.f2
       have csame := Hb2.out.put (.slice D cl.length dc)
       clear hown2 hb2)
    | fail)
  refine bodyPost_ret (v := .tuple #[.agg #[.slice D cl.length dc], .int .i64 er]) (by simp [results, Tryz.results54, go_sem, *]) rfl ?_
  exact ⟨_, rfl, own_rebase (ownsRow_setCell_below Hown2.out (a := ⟨w.heap.size + 1 + 1, 0, none⟩) Hb1.out.size _) Hb1.out.low.size, Hb2.out.low.setCell (by show w.heap.size ≤ w.heap.size + 1 + 1; omega) _⟩
end Go.Proofs.YtglanlpjoaholaaGreat
