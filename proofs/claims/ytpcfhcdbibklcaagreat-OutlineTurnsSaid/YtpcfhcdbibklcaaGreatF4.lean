/- Contracts: Of (reference of regions); Rect (keep). -/
import Derived.Test.YtpcfhcdbibklcaaGreatF3
import Derived.Test.YtpcfhcdbibklcaaGreatT0
namespace Go.Proofs.YtpcfhcdbibklcaaGreat
open Go.RowKit
set_option linter.unusedVariables false
set_option linter.unusedSimpArgs false

/-- The region of some rectangles, and the error. -/
def ofL (l : List R4) : List R4 × Int := if 120 < l.length then ([], 1) else if l.all R4.ok then (if 120 < (combP (· || ·) l []).length then ([], 1) else (combP (· || ·) l [], 0)) else ([], 2)
theorem howR_or : howR 1 = (· || ·) := by funext a b; simp [howR]
/-- What a call leaves that returns a region of its own, and an error. -/
def RegPost (w : World) (x : List R4 × Int) (e : Ending) (w' : World) : Prop :=
  ∃ v, e = .returned (.tuple #[.agg #[v], .int .i64 x.2]) ∧ w'.ownsRow w.heap.size 58 4 v x.1.length (rCells x.1) ∧ Below w.heap.size w w'
theorem all_take_succ {α : Type} (l : List α) (p : α → Bool) (k : Nat) (h : k < l.length) : (l.take (k + 1)).all p = ((l.take k).all p && p l[k]) := by
  rw [List.take_succ_eq_append_getElem h, List.all_append, List.all_cons, List.all_nil, Bool.and_true]

set_option maxHeartbeats 4000000 in
theorem ofR_any (A : Option Addr) (n c : Nat) (l : List R4) (w : World) (h : SlR w A n c l) :
    Calls Tryz.prog 29 #[.slice A n c] w (RegPost w (ofL l)) := by
  have hn := h.len
  have hm := Nat.le_trans h.cap h.top
  unfold maxLen at hm
  have H := Lib.hid h
  clear h
  by_cases hbig : 120 < n
  · have hb' : (120 : Int) < (n : Int) := by omega
    have e0 : ofL l = ([], 1) := by unfold ofL; rw [if_pos (by omega)]
    rw [e0]
    go_enter Tryz.func29, Tryz.ntmps29
    go_wp2
    refine bodyPost_ret (v := .tuple #[.agg #[.slice none 0 0], .int .i64 1]) (by simp [results, Tryz.results29, go_sem, *]) rfl ?_
    exact ⟨_, rfl, World.ownsRow_nil _ _ _ _, (by repeat' (first | with_reducible exact Below.refl _ _ | with_reducible refine below_drewN ?_ _ | with_reducible refine Below.drew ?_ | with_reducible refine Below.alloc ?_ ?_ _ | with_reducible refine Below.setCell ?_ ?_ _ | with_reducible refine Below.trans ?_ (Below.mono (by with_reducible assumption) ?_) | (simp; done) | (simp; omega) | omega))⟩
  · have hb' : ¬ (120 : Int) < (n : Int) := by omega
    have Hof : Hid (ofL l = if l.all R4.ok then (if 120 < (combP (· || ·) l []).length then ([], 1) else (combP (· || ·) l [], 0)) else ([], 2)) := Lib.hid (by unfold ofL; rw [if_neg (by omega)])
    generalize ofL l = res at *
    go_enter Tryz.func29, Tryz.ntmps29
    go_upto_region 4 with fail
    obtain ⟨w0, hw0⟩ : ∃ w0 : World, w0 = w.alloc (.cells #[.slice none 0 0] 25) := ⟨_, rfl⟩
    rw [← hw0]
    have hr0 : w0.heap[w.heap.size]? = some (.cells #[.slice none 0 0] 25 (0, 0)) := by rw [hw0]; exact heap_alloc_new w _
    have hs0 : w.heap.size < w0.heap.size := by rw [hw0]; simp
    have Hb0 : Hid (Below w.heap.size w w0) := Lib.hid (by rw [hw0]; exact (by repeat' (first | with_reducible exact Below.refl _ _ | with_reducible refine below_drewN ?_ _ | with_reducible refine Below.drew ?_ | with_reducible refine Below.alloc ?_ ?_ _ | with_reducible refine Below.setCell ?_ ?_ _ | with_reducible refine Below.trans ?_ (Below.mono (by with_reducible assumption) ?_) | (simp; done) | (simp; omega) | omega)))
    have Hr0 := Lib.hid hr0
    clear hw0 hr0
    go_loopw [5, 12] (fun _ i wr => ∃ k : Nat, k ≤ n ∧ i = .int .i64 (k : Int) ∧ Hid ((l.take k).all R4.ok = true) ∧ Below w0.heap.size w0 wr) (fun _ i _ => n - (intOf i).toNat)
    case atStart => exact ⟨0, Nat.zero_le _, rfl, Lib.hid rfl, Below.refl _ _⟩
    case round =>
      obtain ⟨k, hk, rfl, Hall, hbr⟩ := hrel
      have hsr := hbr.size
      have hr1 : wr.heap[w.heap.size]? = some (.cells #[.slice none 0 0] 25 (0, 0)) := (hbr.block _ hs0).trans Hr0.out
      have cr := cell_of_row wr w.heap.size 0 _ _ _ hr1
      have fr := frozen_of_row wr w.heap.size 0 _ _ hr1
      have hwr : Below w.heap.size w wr := Hb0.out.trans (hbr.mono (by omega))
      have Hwr := Lib.hid hwr
      have Hr1 := Lib.hid hr1
      have Hbr := Lib.hid hbr
      by_cases hkn : k < n
      · have hl : k < l.length := by omega
        obtain ⟨b, off, rfl, hbl, c0, c1, c2, c3⟩ := (H.out.below hwr).at k hl
        have Hs := Lib.hid (all_take_succ l R4.ok k hl)
        have Hno : Hid (l[k].ok = false → res = ([], 2)) := Lib.hid (fun h => by
          rw [Hof.out, if_neg]
          intro h2
          rw [List.all_eq_true] at h2
          rw [h2 l[k] (List.getElem_mem hl)] at h
          cases h)
        have hkn' : (k : Int) < (n : Int) := by omega
        generalize l[k] = q at *
        have Hpr := Lib.hid (fun W => properR_any q W)
        have hsz0 : w.heap.size < wr.heap.size := by omega
        cases hq : q.ok with
        | true =>
          rw [hq] at Hs Hpr
          clear hwr hbr
          go_wp2_with (first | (go_at_call 63; refine (Hpr.out _).mono ?_; rintro e w2 ⟨rfl, hb2⟩; have hs2 := hb2.size; simp at hs2) | fail)
          go_roundw
          case rel => exact ⟨k + 1, by omega, by go_num, Lib.hid (by rw [Hs.out, Hall.out]; rfl), by have h1 := Hbr.out; exact (by repeat' (first | with_reducible exact Below.refl _ _ | with_reducible assumption | with_reducible refine below_drewN ?_ _ | with_reducible refine Below.drew ?_ | with_reducible refine Below.alloc ?_ ?_ _ | with_reducible refine Below.setCell ?_ ?_ _ | with_reducible refine Below.trans ?_ (Below.mono (by with_reducible assumption) ?_) | with_reducible refine below_only ?_ (by with_reducible assumption) ?_ ?_ | (simp; done) | (simp; omega) | omega))⟩
          case measure => simp [intOf]; omega
        | false =>
          rw [hq] at Hs Hpr
          have Hres := Lib.hid (Hno.out hq)
          rw [Hres.out]
          clear hwr hbr
          go_wp2_with fail
          refine (Hpr.out _).mono ?_
          rintro e w2 ⟨rfl, hb2⟩
          have hs2 := hb2.size
          simp at hs2
          have hr2 : w2.heap[w.heap.size]? = some (.cells #[.slice none 0 0] 25 (0, 0)) := (hb2.block _ (by simp; omega)).trans ((Below.heap_alloc wr _ _ hsz0).trans Hr1.out)
          have cr2 := cell_of_row w2 w.heap.size 0 _ _ _ hr2
          have fr2 := frozen_of_row w2 w.heap.size 0 _ _ hr2
          have Hb2 : Hid (Below w.heap.size w w2) := Lib.hid (by have h1 := Hwr.out; exact (by repeat' (first | with_reducible exact Below.refl _ _ | with_reducible assumption | with_reducible refine below_drewN ?_ _ | with_reducible refine Below.drew ?_ | with_reducible refine Below.alloc ?_ ?_ _ | with_reducible refine Below.setCell ?_ ?_ _ | with_reducible refine Below.trans ?_ (Below.mono (by with_reducible assumption) ?_) | with_reducible refine below_only ?_ (by with_reducible assumption) ?_ ?_ | (simp; done) | (simp; omega) | omega)))
          clear hb2 hr2 cr fr
          go_wp2
          refine bodyPost_ret (v := .tuple #[.agg #[.slice none 0 0], .int .i64 2]) (by simp [results, Tryz.results29, go_sem, *]) rfl ?_
          exact ⟨_, rfl, World.ownsRow_nil _ _ _ _, Hb2.out.setCell (Nat.le_refl _) _⟩
      · have hall : l.all R4.ok = true := by have := Hall.out; rw [List.take_of_length_le (by omega)] at this; exact this
        have Hof2 : Hid (res = if 120 < (combP (· || ·) l []).length then ([], 1) else (combP (· || ·) l [], 0)) := Lib.hid (by rw [Hof.out, if_pos hall])
        have Hcomb := Lib.hid (fun W (hW : SlR W A n c l) => combineR_any A none n c 0 0 l [] 1 W hW (SlR.nil W) (by omega))
        rw [howR_or] at Hcomb
        have hkn' : ¬ (k : Int) < (n : Int) := by omega
        have HA := Lib.hid (H.out.below Hwr.out)
        generalize combP (· || ·) l [] = cl at *
        have hsz0 : w.heap.size < wr.heap.size := by omega
        clear hwr hbr hall
        go_wp2_with fail
        refine (Hcomb.out _ HA.out).mono ?_
        rintro e w2 ⟨v2, rfl, hown2, hb2⟩
        have hs2 := hb2.size
        obtain ⟨A2, c2, rfl, _, _, _⟩ := own_slice hown2
        have hr2 : w2.heap[w.heap.size]? = some (.cells #[.slice none 0 0] 25 (0, 0)) := (hb2.block _ (by omega)).trans Hr1.out
        have Hb2 : Hid (Below w.heap.size w w2) := Lib.hid (Hwr.out.trans (hb2.mono (by omega)))
        have Hown2 : Hid (w2.ownsRow w.heap.size 58 4 (.slice A2 cl.length c2) cl.length (rCells cl)) := Lib.hid (own_rebase hown2 (by omega))
        have Hr2 := Lib.hid hr2
        have Hlow2 : Hid (∀ k, (Value.slice A2 cl.length c2).ownBlock = some k → w.heap.size < k) := Lib.hid (fun k hk => by have := own_base hown2 k hk; omega)
        clear hown2 hb2 hr2 cr fr
        by_cases hcl : 120 < cl.length
        · have Hr := Lib.hid (show res = ([], 1) from by rw [Hof2.out, if_pos hcl])
          go_wp2_with fail
          refine (boundR_big A2 cl.length c2 _ hcl).mono ?_
          rintro e w3 ⟨rfl, hb3⟩
          have hr3 : w3.heap[w.heap.size]? = some (.cells #[.slice none 0 0] 25 (0, 0)) := (hb3.block _ (by omega)).trans Hr2.out
          have cr3 := cell_of_row w3 w.heap.size 0 _ _ _ hr3
          have fr3 := frozen_of_row w3 w.heap.size 0 _ _ hr3
          have Hb3 : Hid (Below w.heap.size w w3) := Lib.hid (Hb2.out.trans (hb3.mono (by omega)))
          clear hb3 hr3
          go_wp2
          refine bodyPost_ret (v := .tuple #[.agg #[.slice none 0 0], .int .i64 1]) (by simp [results, Tryz.results29, go_sem, *]) rfl ?_
          rw [Hr.out]
          exact ⟨_, rfl, World.ownsRow_nil _ _ _ _, Hb3.out.setCell (Nat.le_refl _) _⟩
        · have Hr := Lib.hid (show res = (cl, 0) from by rw [Hof2.out, if_neg hcl])
          go_wp2_with fail
          refine (boundR_ok A2 cl.length c2 _ (by omega)).mono ?_
          rintro e w3 ⟨rfl, hb3⟩
          have hr3 : w3.heap[w.heap.size]? = some (.cells #[.slice none 0 0] 25 (0, 0)) := (hb3.block _ (by omega)).trans Hr2.out
          have cr3 := cell_of_row w3 w.heap.size 0 _ _ _ hr3
          have fr3 := frozen_of_row w3 w.heap.size 0 _ _ hr3
          have Hb3 : Hid (Below w.heap.size w w3) := Lib.hid (Hb2.out.trans (hb3.mono (by omega)))
          have Hown3 : Hid (w3.ownsRow w.heap.size 58 4 (.slice A2 cl.length c2) cl.length (rCells cl)) := Lib.hid (ownsRow_below Hown2.out hb3)
          clear hb3 hr3
          go_wp2
          refine bodyPost_ret (v := .tuple #[.agg #[.slice A2 cl.length c2], .int .i64 0]) (by simp [results, Tryz.results29, go_sem, *]) rfl ?_
          rw [Hr.out]
          refine ⟨_, rfl, own_other Hown3.out (only_setCell (g := w.heap.size) (World.grownBy.refl _ _) (.inl rfl) _) (fun k hk e => ?_), Hb3.out.setCell (Nat.le_refl _) _⟩
          injection e with e
          have := Hlow2.out k hk
          omega

/-- What the tape makes of a rectangle. -/
def mkRect (r : List Int) (side : Int) : R4 := ⟨nx r side, nx r.tail side, nx r side + 1 + nx r.tail.tail (side - nx r side), nx r.tail side + 1 + nx r.tail.tail.tail (side - nx r.tail side)⟩
def RectPost (w : World) (g : Nat) (r : List Int) (q : R4) (e : Ending) (w' : World) : Prop :=
  e = .returned (.agg #[.int .i64 q.l, .int .i64 q.b, .int .i64 q.r, .int .i64 q.t]) ∧ TapeAt w' g r.tail.tail.tail.tail ∧ w.grownBy w' (some g)

set_option maxHeartbeats 4000000 in
theorem rect_any (g : Nat) (r : List Int) (side : Int) (w : World) (ht : TapeAt w g r) (hs : 1 ≤ side ∧ side ≤ 1000) :
    Calls Tryz.prog 28 #[.pointer (some ⟨g, 0, none⟩), .int .i64 side] w (RectPost w g r (mkRect r side)) := by
  have hlt := ht.lt
  have H0 := Lib.hid ht
  have b1 := nx_bd r side hs.1
  have b2 := nx_bd r.tail side hs.1
  have b3 := nx_bd r.tail.tail (side - nx r side) (by omega)
  have b4 := nx_bd r.tail.tail.tail (side - nx r.tail side) (by omega)
  have Hm : Hid (mkRect r side = ⟨nx r side, nx r.tail side, nx r side + 1 + nx r.tail.tail (side - nx r side), nx r.tail side + 1 + nx r.tail.tail.tail (side - nx r.tail side)⟩) := Lib.hid rfl
  have N1 := Lib.hid (fun W (h : TapeAt W g r) => next_any g r side W h (by omega))
  have N2 := Lib.hid (fun W (h : TapeAt W g r.tail) => next_any g r.tail side W h (by omega))
  have N3 := Lib.hid (fun W (h : TapeAt W g r.tail.tail) => next_any g r.tail.tail (side - nx r side) W h (by omega))
  have N4 := Lib.hid (fun W (h : TapeAt W g r.tail.tail.tail) => next_any g r.tail.tail.tail (side - nx r.tail side) W h (by omega))
  generalize nx r.tail.tail (side - nx r side) = x3 at *
  generalize nx r.tail.tail.tail (side - nx r.tail side) = x4 at *
  generalize nx r side = x1 at *
  generalize nx r.tail side = x2 at *
  clear ht
  go_enter Tryz.func28, Tryz.ntmps28
  go_wp2_with fail
  refine (N1.out _ (H0.out.alloc _)).mono ?_
  rintro e w1 ⟨rfl, ht1, hg1⟩
  go_wp2_with fail
  refine (N2.out _ ht1).mono ?_
  rintro e w2 ⟨rfl, ht2, hg2⟩
  have hw1 : IntKind.i64.wrap (side - x1) = side - x1 := IntWalk.i64_in _ (by omega)
  have hw2 : IntKind.i64.wrap (side - x2) = side - x2 := IntWalk.i64_in _ (by omega)
  go_wp2_with fail
  refine (N3.out _ ht2).mono ?_
  rintro e w3 ⟨rfl, ht3, hg3⟩
  go_wp2_with fail
  refine (N4.out _ ht3).mono ?_
  rintro e w4 ⟨rfl, ht4, hg4⟩
  have hg := only_trans (only_trans (only_trans hg1 hg2) hg3) hg4
  have hsz := hg.size
  simp at hsz
  have hbx : w4.heap[w.heap.size]? = some (.cells #[.int .i64 0, .int .i64 0, .int .i64 0, .int .i64 0] 58 (0, 0)) :=
    (hg.block w.heap.size (by simp) (by intro e; injection e; omega)).trans (heap_alloc_new w _)
  have r0 := cell_of_row w4 w.heap.size 0 _ _ _ hbx
  have r1 := cell_of_row w4 w.heap.size 1 _ _ _ hbx
  have r2 := cell_of_row w4 w.heap.size 2 _ _ _ hbx
  have r3 := cell_of_row w4 w.heap.size 3 _ _ _ hbx
  have f0 := frozen_of_row w4 w.heap.size 0 _ _ hbx
  have f1 := frozen_of_row w4 w.heap.size 1 _ _ hbx
  have f2 := frozen_of_row w4 w.heap.size 2 _ _ hbx
  have f3 := frozen_of_row w4 w.heap.size 3 _ _ hbx
  have HT4 := Lib.hid ht4
  have Hg := Lib.hid hg
  clear ht1 ht2 ht3 ht4 hg1 hg2 hg3 hg4 hg hbx
  go_wp2
  refine bodyPost_ret (v := .agg #[.int .i64 x1, .int .i64 x2, .int .i64 (x1 + 1 + x3), .int .i64 (x2 + 1 + x4)]) (by simp [results, Tryz.results28, go_sem, *]) rfl ?_
  refine ⟨by rw [Hm.out], ?_, ?_⟩
  · exact (((HT4.out.setCell hlt _).setCell hlt _).setCell hlt _).setCell hlt _
  · have h1 : w.grownBy w4 (some g) := ⟨Hg.out.os, Hg.out.tape, Hg.out.output, by omega, fun i hi hne => (Hg.out.block i (by simp; omega) hne).trans (Below.heap_alloc w _ i hi)⟩
    exact only_setCell (only_setCell (only_setCell (only_setCell h1 (.inr (by simp)) _) (.inr (by simp)) _) (.inr (by simp)) _) (.inr (by simp)) _
end Go.Proofs.YtpcfhcdbibklcaaGreat
