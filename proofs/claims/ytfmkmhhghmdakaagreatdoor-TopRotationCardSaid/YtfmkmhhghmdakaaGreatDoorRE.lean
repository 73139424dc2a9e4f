import Derived.Test.YtfmkmhhghmdakaaGreatDoorRB
import Derived.Test.YtfmkmhhghmdakaaGreatDoorSX
namespace Go.Proofs.YtfmkmhhghmdakaaGreatDoor
open Go.RowKit
set_option linter.unusedVariables false
set_option linter.unusedSimpArgs false
set_option maxHeartbeats 64000000
set_option maxRecDepth 100000
def ofL (l : List R4) : List R4 × Int := if 120 < l.length then ([], 1) else if l.all R4.ok then (if 120 < (combP (· || ·) l []).length then ([], 1) else (combP (· || ·) l [], 0)) else ([], 2)
theorem howR_or : howR 1 = (· || ·) := by funext a b; simp [howR]
def RegPost (w : World) (x : List R4 × Int) (e : Ending) (w' : World) : Prop :=
  ∃ v, e = .returned (.tuple #[.agg #[v], .int .i64 x.2]) ∧ w'.ownsRow w.heap.size 68 4 v x.1.length (rCells x.1) ∧ Below w.heap.size w w'
theorem all_take_succ {α : Type} (l : List α) (p : α → Bool) (k : Nat) (h : k < l.length) : (l.take (k + 1)).all p = ((l.take k).all p && p l[k]) := by
  rw [List.take_succ_eq_append_getElem h, List.all_append, List.all_cons, List.all_nil, Bool.and_true]
theorem ofR_any (A : Option Addr) (n c : Nat) (l : List R4) (w : World) (h : SlR w A n c l) :
    Calls Tryz.prog 78 #[.slice A n c] w (RegPost w (ofL l)) := by
  have hn := h.len
  have hm := Nat.le_trans h.cap h.top
  unfold maxLen at hm
  have H := Lib.hid h
  clear h
  by_cases hbig : 120 < n
  · have hb' : (120 : Int) < (n : Int) := by omega
    have e0 : ofL l = ([], 1) := by unfold ofL; rw [if_pos (by omega)]
    rw [e0]
    go_enter Tryz.func78, Tryz.ntmps78
    go_wp2
    refine bodyPost_ret (v := .tuple #[.agg #[.slice none 0 0], .int .i64 1]) (by simp [results, Tryz.results78, go_sem, *]) rfl ?_
    exact ⟨_, rfl, World.ownsRow_nil _ _ _ _, gBel⟩
  · have hb' : ¬ (120 : Int) < (n : Int) := by omega
    have Hof : Hid (ofL l = if l.all R4.ok then (if 120 < (combP (· || ·) l []).length then ([], 1) else (combP (· || ·) l [], 0)) else ([], 2)) := Lib.hid (by unfold ofL; rw [if_neg (by omega)])
    generalize ofL l = res at *
    go_enter Tryz.func78, Tryz.ntmps78
    go_upto_region 4 with fail
    obtain ⟨w0, hw0⟩ : ∃ w0 : World, w0 = w.alloc (.cells #[.slice none 0 0] 33) := ⟨_, rfl⟩
    rw [← hw0]
    have hr0 : w0.heap[w.heap.size]? = some (.cells #[.slice none 0 0] 33 (0, 0)) := by rw [hw0]; exact heap_alloc_new w _
    have hs0 : w.heap.size < w0.heap.size := by rw [hw0]; simp
    have Hb0 : Hid (Below w.heap.size w w0) := Lib.hid (by rw [hw0]; exact gBel)
    have Hr0 := Lib.hid hr0
    clear hw0 hr0
    go_loopw [5, 12] (fun _ i wr => ∃ k : Nat, k ≤ n ∧ i = .int .i64 (k : Int) ∧ Hid ((l.take k).all R4.ok = true) ∧ Below w0.heap.size w0 wr) (fun _ i _ => n - (intOf i).toNat)
    case atStart => exact ⟨0, Nat.zero_le _, rfl, Lib.hid rfl, Below.refl _ _⟩
    case round =>
      obtain ⟨k, hk, rfl, Hall, hbr⟩ := hrel
      have hsr := hbr.size
      have hr1 : wr.heap[w.heap.size]? = some (.cells #[.slice none 0 0] 33 (0, 0)) := (hbr.block _ hs0).trans Hr0.out
      have cr := cell_of_row wr w.heap.size 0 _ _ _ hr1
      have fr := frozen_of_row wr w.heap.size 0 _ _ hr1
      have hwr : Below w.heap.size w wr := Hb0.out.trans (hbr.mono (by omega))
      have Hwr := Lib.hid hwr
      have Hr1 := Lib.hid hr1
      have Hbr := Lib.hid hbr
      by_cases hkn : k < n
      · have hl : k < l.length := by omega
        obtain ⟨b, off, rfl, hbl, c0, c1, c2, c3⟩ := (H.out.below hwr).at k hl
        have Hs := Lib.hid (all_take_succ l R4.ok k hl)
        have Hno : Hid (l[k].ok = false → res = ([], 2)) := Lib.hid (fun h => by
          rw [Hof.out, if_neg]
          intro h2
          rw [List.all_eq_true] at h2
          rw [h2 l[k] (List.getElem_mem hl)] at h
          cases h)
        have hkn' : (k : Int) < (n : Int) := by omega
        generalize l[k] = q at *
        have Hpr := Lib.hid (fun W => properR_any q W)
        have hsz0 : w.heap.size < wr.heap.size := by omega
        cases hq : q.ok with
        | true =>
          rw [hq] at Hs Hpr
          clear hwr hbr
          go_wp2_with (first | (go_at_call 183; refine (Hpr.out _).mono ?_; rintro e w2 ⟨rfl, hb2⟩; have hs2 := hb2.size; simp at hs2) | fail)
          go_roundw
          case rel => exact ⟨k + 1, by omega, by go_num, Lib.hid (by rw [Hs.out, Hall.out]; rfl), by have h1 := Hbr.out; exact gBelo⟩
          case measure => simp [intOf]; omega
        | false =>
          rw [hq] at Hs Hpr
          have Hres := Lib.hid (Hno.out hq)
          rw [Hres.out]
          clear hwr hbr
          go_wp2_with fail
          refine (Hpr.out _).mono ?_
          rintro e w2 ⟨rfl, hb2⟩
          have hs2 := hb2.size
          simp at hs2
          have hr2 : w2.heap[w.heap.size]? = some (.cells #[.slice none 0 0] 33 (0, 0)) := (hb2.block _ (by simp; omega)).trans ((Below.heap_alloc wr _ _ hsz0).trans Hr1.out)
          have cr2 := cell_of_row w2 w.heap.size 0 _ _ _ hr2
          have fr2 := frozen_of_row w2 w.heap.size 0 _ _ hr2
          have Hb2 : Hid (Below w.heap.size w w2) := Lib.hid (by have h1 := Hwr.out; exact gBelo)
          clear hb2 hr2 cr fr
          go_wp2
          refine bodyPost_ret (v := .tuple #[.agg #[.slice none 0 0], .int .i64 2]) (by simp [results, Tryz.results78, go_sem, *]) rfl ?_
          exact ⟨_, rfl, World.ownsRow_nil _ _ _ _, Hb2.out.setCell (Nat.le_refl _) _⟩
      · have hall : l.all R4.ok = true := by have := Hall.out; rw [List.take_of_length_le (by omega)] at this; exact this
        have Hof2 : Hid (res = if 120 < (combP (· || ·) l []).length then ([], 1) else (combP (· || ·) l [], 0)) := Lib.hid (by rw [Hof.out, if_pos hall])
        have Hcomb := Lib.hid (fun W (hW : SlR W A n c l) => combineR_any A none n c 0 0 l [] 1 W hW (SlR.nil W) (by omega))
        rw [howR_or] at Hcomb
        have hkn' : ¬ (k : Int) < (n : Int) := by omega
        have HA := Lib.hid (H.out.below Hwr.out)
        generalize combP (· || ·) l [] = cl at *
        have hsz0 : w.heap.size < wr.heap.size := by omega
        clear hwr hbr hall
        go_wp2_with fail
        refine (Hcomb.out _ HA.out).mono ?_
        rintro e w2 ⟨v2, rfl, hown2, hb2⟩
        have hs2 := hb2.size
        obtain ⟨A2, c2, rfl, _, _, _⟩ := own_slice hown2
        have hr2 : w2.heap[w.heap.size]? = some (.cells #[.slice none 0 0] 33 (0, 0)) := (hb2.block _ (by omega)).trans Hr1.out
        have Hb2 : Hid (Below w.heap.size w w2) := Lib.hid (Hwr.out.trans (hb2.mono (by omega)))
        have Hown2 : Hid (w2.ownsRow w.heap.size 68 4 (.slice A2 cl.length c2) cl.length (rCells cl)) := Lib.hid (own_rebase hown2 (by omega))
        have Hr2 := Lib.hid hr2
        have Hlow2 : Hid (∀ k, (Value.slice A2 cl.length c2).ownBlock = some k → w.heap.size < k) := Lib.hid (fun k hk => by have := own_base hown2 k hk; omega)
        clear hown2 hb2 hr2 cr fr
        by_cases hcl : 120 < cl.length
        · have Hr := Lib.hid (show res = ([], 1) from by rw [Hof2.out, if_pos hcl])
          go_wp2_with fail
          refine (boundR_big A2 cl.length c2 _ hcl).mono ?_
          rintro e w3 ⟨rfl, hb3⟩
          have hr3 : w3.heap[w.heap.size]? = some (.cells #[.slice none 0 0] 33 (0, 0)) := (hb3.block _ (by omega)).trans Hr2.out
          have cr3 := cell_of_row w3 w.heap.size 0 _ _ _ hr3
          have fr3 := frozen_of_row w3 w.heap.size 0 _ _ hr3
          have Hb3 : Hid (Below w.heap.size w w3) := Lib.hid (Hb2.out.trans (hb3.mono (by omega)))
          clear hb3 hr3
          go_wp2
          refine bodyPost_ret (v := .tuple #[.agg #[.slice none 0 0], .int .i64 1]) (by simp [results, Tryz.results78, go_sem, *]) rfl ?_
          rw [Hr.out]
          exact ⟨_, rfl, World.ownsRow_nil _ _ _ _, Hb3.out.setCell (Nat.le_refl _) _⟩
        · have Hr := Lib.hid (show res = (cl, 0) from by rw [Hof2.out, if_neg hcl])
          go_wp2_with fail
          refine (boundR_ok A2 cl.length c2 _ (by omega)).mono ?_
          rintro e w3 ⟨rfl, hb3⟩
          have hr3 : w3.heap[w.heap.size]? = some (.cells #[.slice none 0 0] 33 (0, 0)) := (hb3.block _ (by omega)).trans Hr2.out
          have cr3 := cell_of_row w3 w.heap.size 0 _ _ _ hr3
          have fr3 := frozen_of_row w3 w.heap.size 0 _ _ hr3
          have Hb3 : Hid (Below w.heap.size w w3) := Lib.hid (Hb2.out.trans (hb3.mono (by omega)))
          have Hown3 : Hid (w3.ownsRow w.heap.size 68 4 (.slice A2 cl.length c2) cl.length (rCells cl)) := Lib.hid (ownsRow_below Hown2.out hb3)
          clear hb3 hr3
          go_wp2
          refine bodyPost_ret (v := .tuple #[.agg #[.slice A2 cl.length c2], .int .i64 0]) (by simp [results, Tryz.results78, go_sem, *]) rfl ?_
          rw [Hr.out]
          refine ⟨_, rfl, own_other Hown3.out (only_setCell (g := w.heap.size) (World.grownBy.refl _ _) (.inl rfl) _) (fun k hk e => ?_), Hb3.out.setCell (Nat.le_refl _) _⟩
          injection e with e
          have := Hlow2.out k hk
          omega
def mkRect (r : List Int) (side : Int) : R4 := ⟨nx r side, nx r.tail side, nx r side + 1 + nx r.tail.tail (side - nx r side), nx r.tail side + 1 + nx r.tail.tail.tail (side - nx r.tail side)⟩
def RectPost (w : World) (g : Nat) (r : List Int) (q : R4) (e : Ending) (w' : World) : Prop :=
  e = .returned (.agg #[.int .i64 q.l, .int .i64 q.b, .int .i64 q.r, .int .i64 q.t]) ∧ TapeAt w' g r.tail.tail.tail.tail ∧ w.grownBy w' (some g)
theorem rect_any (g : Nat) (r : List Int) (side : Int) (w : World) (ht : TapeAt w g r) (hs : 1 ≤ side ∧ side ≤ 1000) :
    Calls Tryz.prog 77 #[.pointer (some ⟨g, 0, none⟩), .int .i64 side] w (RectPost w g r (mkRect r side)) := by
  have hlt := ht.lt
  have H0 := Lib.hid ht
  have b1 := nx_bd r side hs.1
  have b2 := nx_bd r.tail side hs.1
  have b3 := nx_bd r.tail.tail (side - nx r side) (by omega)
  have b4 := nx_bd r.tail.tail.tail (side - nx r.tail side) (by omega)
  have Hm : Hid (mkRect r side = ⟨nx r side, nx r.tail side, nx r side + 1 + nx r.tail.tail (side - nx r side), nx r.tail side + 1 + nx r.tail.tail.tail (side - nx r.tail side)⟩) := Lib.hid rfl
  have N1 := Lib.hid (fun W (h : TapeAt W g r) => next_any g r side W h (by omega))
  have N2 := Lib.hid (fun W (h : TapeAt W g r.tail) => next_any g r.tail side W h (by omega))
  have N3 := Lib.hid (fun W (h : TapeAt W g r.tail.tail) => next_any g r.tail.tail (side - nx r side) W h (by omega))
  have N4 := Lib.hid (fun W (h : TapeAt W g r.tail.tail.tail) => next_any g r.tail.tail.tail (side - nx r.tail side) W h (by omega))
  generalize nx r.tail.tail (side - nx r side) = x3 at *
  generalize nx r.tail.tail.tail (side - nx r.tail side) = x4 at *
  generalize nx r side = x1 at *
  generalize nx r.tail side = x2 at *
  clear ht
  go_enter Tryz.func77, Tryz.ntmps77
  go_wp2_with fail
  refine (N1.out _ (H0.out.alloc _)).mono ?_
  rintro e w1 ⟨rfl, ht1, hg1⟩
  go_wp2_with fail
  refine (N2.out _ ht1).mono ?_
  rintro e w2 ⟨rfl, ht2, hg2⟩
  have hw1 : IntKind.i64.wrap (side - x1) = side - x1 := IntWalk.i64_in _ (by omega)
  have hw2 : IntKind.i64.wrap (side - x2) = side - x2 := IntWalk.i64_in _ (by omega)
  go_wp2_with fail
  refine (N3.out _ ht2).mono ?_
  rintro e w3 ⟨rfl, ht3, hg3⟩
  go_wp2_with fail
  refine (N4.out _ ht3).mono ?_
  rintro e w4 ⟨rfl, ht4, hg4⟩
  have hg := only_trans (only_trans (only_trans hg1 hg2) hg3) hg4
  have hsz := hg.size
  simp at hsz
  have hbx : w4.heap[w.heap.size]? = some (.cells #[.int .i64 0, .int .i64 0, .int .i64 0, .int .i64 0] 68 (0, 0)) :=
    (hg.block w.heap.size (by simp) (by intro e; injection e; omega)).trans (heap_alloc_new w _)
  have r0 := cell_of_row w4 w.heap.size 0 _ _ _ hbx
  have r1 := cell_of_row w4 w.heap.size 1 _ _ _ hbx
  have r2 := cell_of_row w4 w.heap.size 2 _ _ _ hbx
  have r3 := cell_of_row w4 w.heap.size 3 _ _ _ hbx
  have f0 := frozen_of_row w4 w.heap.size 0 _ _ hbx
  have f1 := frozen_of_row w4 w.heap.size 1 _ _ hbx
  have f2 := frozen_of_row w4 w.heap.size 2 _ _ hbx
  have f3 := frozen_of_row w4 w.heap.size 3 _ _ hbx
  have HT4 := Lib.hid ht4
  have Hg := Lib.hid hg
  clear ht1 ht2 ht3 ht4 hg1 hg2 hg3 hg4 hg hbx
  go_wp2
  refine bodyPost_ret (v := .agg #[.int .i64 x1, .int .i64 x2, .int .i64 (x1 + 1 + x3), .int .i64 (x2 + 1 + x4)]) (by simp [results, Tryz.results77, go_sem, *]) rfl ?_
  refine ⟨by rw [Hm.out], ?_, ?_⟩
  · exact (((HT4.out.setCell hlt _).setCell hlt _).setCell hlt _).setCell hlt _
  · have h1 : w.grownBy w4 (some g) := ⟨Hg.out.os, Hg.out.tape, Hg.out.output, by omega, fun i hi hne => (Hg.out.block i (by simp; omega) hne).trans (Below.heap_alloc w _ i hi)⟩
    exact only_setCell (only_setCell (only_setCell (only_setCell h1 (.inr (by simp)) _) (.inr (by simp)) _) (.inr (by simp)) _) (.inr (by simp)) _
def mkRects : Nat → List Int → Int → List R4 × List Int
  | 0, r, _ => ([], r)
  | k + 1, r, s => (mkRect r s :: (mkRects k r.tail.tail.tail.tail s).1, (mkRects k r.tail.tail.tail.tail s).2)
def mkReg (r : List Int) (side most : Int) : List R4 × List Int := ((ofL (mkRects (nx r (most + 1)).toNat r.tail side).1).1, (mkRects (nx r (most + 1)).toNat r.tail side).2)
def RegTPost (w : World) (g : Nat) (x : List R4 × List Int) (e : Ending) (w' : World) : Prop :=
  ∃ v, e = .returned (.agg #[v]) ∧ w'.ownsRow w.heap.size 68 4 v x.1.length (rCells x.1) ∧ TapeAt w' g x.2 ∧ w.grownBy w' (some g)
theorem region_any (g : Nat) (r : List Int) (side most : Int) (w : World) (ht : TapeAt w g r) (hs : 1 ≤ side ∧ side ≤ 1000) (hm : 0 ≤ most ∧ most ≤ 100) :
    Calls Tryz.prog 21 #[.pointer (some ⟨g, 0, none⟩), .int .i64 side, .int .i64 most] w (RegTPost w g (mkReg r side most)) := by
  obtain ⟨i0, hi, hz0, hz1, hz2⟩ := info_parts Tryz.infoRect
  have hlt := ht.lt
  have hb := nx_bd r (most + 1) (by omega)
  have N1 := Lib.hid (next_any g r (most + 1) (w.alloc (.cells #[.slice none 0 0] 33)) (ht.alloc _) (by omega))
  have Hm : Hid (mkReg r side most = ((ofL (mkRects (nx r (most + 1)).toNat r.tail side).1).1, (mkRects (nx r (most + 1)).toNat r.tail side).2)) := Lib.hid rfl
  obtain ⟨n, hn⟩ := Int.eq_ofNat_of_zero_le hb.1
  rw [hn] at N1 Hm hb
  clear hn ht
  have hn100 : n ≤ 100 := by omega
  obtain ⟨tot, htot⟩ : ∃ tot, (mkRects n r.tail side).1 = tot := ⟨_, rfl⟩
  obtain ⟨rend, hrend⟩ : ∃ rend, (mkRects n r.tail side).2 = rend := ⟨_, rfl⟩
  have Hm2 : Hid (mkReg r side most = ((ofL tot).1, rend)) := Lib.hid (by rw [Hm.out]; simp only [Int.toNat_natCast]; rw [htot, hrend])
  have Htot := Lib.hid htot
  have Hrend := Lib.hid hrend
  generalize mkReg r side most = res at *
  clear Hm hb htot hrend
  go_enter Tryz.func21, Tryz.ntmps21
  go_wp2_with fail
  refine N1.out.mono ?_
  rintro e w1 ⟨rfl, ht1, hg1⟩
  have hsz1 := hg1.size
  simp at hsz1
  have Hg1 := Lib.hid hg1
  have HT1 := Lib.hid ht1
  have hr1 : w1.heap[w.heap.size]? = some (.cells #[.slice none 0 0] 33 (0, 0)) := (hg1.block w.heap.size (by simp) (by intro e; injection e; omega)).trans (heap_alloc_new w _)
  have Hr1 := Lib.hid hr1
  clear hg1 ht1 hr1 N1
  go_upto_region 3 with fail
  go_loopw [7, 8] (fun lv nv wr => ∃ (k : Nat) (acc : List R4) (r1 : List Int), nv = .int .i64 (k : Int) ∧ acc.length + k ≤ 100 ∧ wr.ownsRow w1.heap.size 68 4 lv acc.length (rCells acc) ∧ TapeAt wr g r1 ∧ w1.grownBy wr (some g) ∧ Hid (acc ++ (mkRects k r1 side).1 = tot) ∧ Hid ((mkRects k r1 side).2 = rend)) (fun _ nv _ => (intOf nv).toNat)
  case atStart => exact ⟨n, [], r.tail, rfl, by simpa using hn100, World.ownsRow_nil _ _ _ _, HT1.out, World.grownBy.refl _ _, Lib.hid (by rw [Htot.out]; rfl), Lib.hid Hrend.out⟩
  case round =>
    obtain ⟨k, acc, r1, rfl, hak, hown, htr, hgr, Hacc, Hre⟩ := hrel
    have hsr := hgr.size
    have Hown := Lib.hid hown
    have Htr := Lib.hid htr
    have Hgr := Lib.hid hgr
    clear hown htr hgr
    rcases k with _ | k
    · have Hat : Hid (acc = tot) := Lib.hid (by have := Hacc.out; simpa [mkRects] using this)
      have Hrr : Hid (r1 = rend) := Lib.hid (by have := Hre.out; simpa [mkRects] using this)
      rw [Hat.out] at Hown
      rw [Hrr.out] at Htr
      obtain ⟨A2, c2, rfl, h21, h22, h23⟩ := own_slice Hown.out
      have HS : Hid (SlR wr A2 tot.length c2 tot) := Lib.hid ⟨rfl, h22, h23, h21⟩
      have hr2 : wr.heap[w.heap.size]? = some (.cells #[.slice none 0 0] 33 (0, 0)) := (Hgr.out.block w.heap.size (by omega) (by intro e; injection e; omega)).trans Hr1.out
      have Hr2 := Lib.hid hr2
      clear h21 h22 h23 hr2
      go_wp2_with fail
      refine (ofR_any A2 tot.length c2 tot _ HS.out).mono ?_
      rintro e w3 ⟨v3, rfl, hown3, hb3⟩
      have hs3 := hb3.size
      obtain ⟨rl, hrl⟩ : ∃ rl, (ofL tot).1 = rl := ⟨_, rfl⟩
      obtain ⟨er, her⟩ : ∃ er, (ofL tot).2 = er := ⟨_, rfl⟩
      rw [hrl] at hown3
      rw [her]
      have hr3 : w3.heap[w.heap.size]? = some (.cells #[.slice none 0 0] 33 (0, 0)) := (hb3.block _ (by omega)).trans Hr2.out
      obtain ⟨A3, c3, rfl, _, _, _⟩ := own_slice hown3
      have Hlow3 : Hid (∀ k, (Value.slice A3 rl.length c3).ownBlock = some k → wr.heap.size ≤ k ∧ k < w3.heap.size) := Lib.hid (fun k hk => hown3.lt k hk)
      have HT3 : Hid (TapeAt w3 g rend) := Lib.hid (Htr.out.below hb3 (by have := Htr.out.lt; omega))
      have Hb3 := Lib.hid hb3
      have Hr3 := Lib.hid hr3
      have Hown3 := Lib.hid hown3
      have Hrl := Lib.hid hrl
      have hs30 : w.heap.size < w3.heap.size := by omega
      have cr3 : ∀ o, (w3.alloc o).cell? ⟨w.heap.size, 0, none⟩ = some (.slice none 0 0) := fun o => by rw [World.cell?_alloc_lt w3 o _ hs30]; exact cell_of_row w3 w.heap.size 0 _ _ _ Hr3.out
      have fr3 : ∀ o, (w3.alloc o).frozen? ⟨w.heap.size, 0, none⟩ = false := fun o => frozen_of_row (w3.alloc o) w.heap.size 0 _ _ ((Below.heap_alloc w3 o _ hs30).trans Hr3.out)
      have csame : (w3.setCell ⟨w.heap.size, 0, none⟩ (.slice A3 rl.length c3)).cell? ⟨w.heap.size, 0, none⟩ = some (.slice A3 rl.length c3) := by
        rw [cell_of_row _ w.heap.size 0 _ _ _ (heap_setCell_same w3 w.heap.size 0 _ _ _ hr3)]
        simp
      clear hown3 hb3 hr3 hrl her
      go_wp2
      refine bodyPost_ret (v := .agg #[.slice A3 rl.length c3]) (by simp [results, Tryz.results21, go_sem, *]) rfl ?_
      rw [Hm2.out]
      rw [Hrl.out]
      refine ⟨_, rfl, ?_, ?_, ?_⟩
      · exact ((own_other (own_rebase Hown3.out (by omega)) (only_setCell (g := w.heap.size) (World.grownBy.refl _ _) (.inl rfl) _) (fun k hk e => by injection e with e; have := Hlow3.out k hk; omega))).alloc _
      · exact (HT3.out.setCell hlt _).alloc _
      · have h0 := only_below (only_trans Hg1.out Hgr.out) Hb3.out (by simp; omega)
        have h1 : w.grownBy w3 (some g) := ⟨h0.os, h0.tape, h0.output, by omega, fun i hi hne => (h0.block i (by simp; omega) hne).trans (Below.heap_alloc w _ i hi)⟩
        exact only_alloc (only_setCell h1 (.inr (Nat.le_refl _)) _) _
    · have Hacc2 : Hid ((acc ++ [mkRect r1 side]) ++ (mkRects k r1.tail.tail.tail.tail side).1 = tot) := Lib.hid (by rw [← Hacc.out]; simp [mkRects])
      have Hre2 : Hid ((mkRects k r1.tail.tail.tail.tail side).2 = rend) := Lib.hid (by rw [← Hre.out]; rfl)
      have hk0 : (0 : Int) < ((k + 1 : Nat) : Int) := by omega
      have hac : acc.length ≤ 100 := by omega
      go_wp2_with (first
        | (go_at_call 77; refine (rect_any g r1 side _ Htr.out hs).mono ?_; rintro e w3 ⟨rfl, ht3, hg3⟩; have hs3 := hg3.size; have Hown3 := Lib.hid (ownsRow_only Hown.out hg3 (by omega)); have Htr3 := Lib.hid ht3; have Hgr3 := Lib.hid (only_trans Hgr.out hg3); clear ht3 hg3)
        | (at_builtin
           refine wpList_append_any _ rfl (.tmp 19) (.tmp 23) _ rfl w1.heap.size 68 i0 _ 4 32 Tryz.underlying31 hi hz0 hz1 hz2 rfl (by omega) _ acc.length (rCells acc) rfl
             (Hown3.out.alloc _) _ _ 1 1 [.int .i64 (mkRect r1 side).l, .int .i64 (mkRect r1 side).b, .int .i64 (mkRect r1 side).r, .int .i64 (mkRect r1 side).t] rfl ⟨rfl, fun _ => ⟨_, rfl, Nat.lt_succ_self _, fun j u hu => (by exact news_any _ _ _ j u hu)⟩⟩ (by simp [Value.oneCell']) (by simp only [maxLen]; omega) (by omega) (by simp; omega) ?_
           intro v5 w5 hown5 hg5 hat5)
        | fail)
      go_roundw
      case rel =>
        have hgl := Htr3.out.lt
        refine ⟨k, acc ++ [mkRect r1 side], _, by go_num, by simp; omega, ?_, ?_, ?_, Hacc2, Hre2⟩
        · rw [List.length_append, rCells_snoc]
          exact hown5
        · exact (Htr3.out.alloc _).grown hg5 (fun q hq => by have := own_base Hown3.out q hq; omega)
        · exact only_grown (only_alloc Hgr3.out _) hg5 (fun q hq => own_base Hown3.out q hq)
      case measure => simp [intOf]
def validP (l : List R4) : Bool := decide (l.length ≤ 120) && l.all R4.ok && decide (canonP l = l)
theorem ok_pos {l : List R4} (h : l.all R4.ok = true) : ∀ q ∈ l, q.l < q.r := by
  intro q hq
  have := List.all_eq_true.1 h q hq
  simp [R4.ok] at this
  omega
theorem any_not_all {α : Type} (l : List α) (p : α → Bool) : (l.any fun q => !p q) = !l.all p := by
  induction l with
  | nil => rfl
  | cons a t ih => simp [ih, Bool.not_and]
def ofP (l : List R4) : List R4 × Int := if 120 < l.length then ([], 1) else if l.all R4.ok then (if 120 < (canonP l).length then ([], 1) else (canonP l, 0)) else ([], 2)
theorem ofP_eq (l : List R4) : ofP l = ofL l := by
  unfold ofP ofL
  split
  · rfl
  · split
    · rename_i h
      rw [canonP_comb l (ok_pos h)]
    · rfl
def InS (s : Int) (l : List R4) : Prop := ∀ q ∈ l, 0 ≤ q.l ∧ q.l < q.r ∧ q.r ≤ s ∧ 0 ≤ q.b ∧ q.b < q.t ∧ q.t ≤ s
theorem InS.ok {s : Int} {l : List R4} (h : InS s l) (hs : s ≤ 1000) : l.all R4.ok = true := by
  rw [List.all_eq_true]
  intro q hq
  have := h q hq
  simp [R4.ok]
  omega
theorem InS.pos {s : Int} {l : List R4} (h : InS s l) : ∀ q ∈ l, q.l < q.r := fun q hq => (h q hq).2.1
theorem InS.in {s : Int} {l : List R4} (h : InS s l) (x y : Int) (hx : inL l x y = true) : 0 ≤ x ∧ x < s ∧ 0 ≤ y ∧ y < s := by
  obtain ⟨q, hq, h1⟩ := List.any_eq_true.1 hx
  have := h q hq
  simp [R4.has] at h1
  omega
theorem Canon.own {P : Int → Int → Bool} {R : List R4} (h : Canon P R) (hp : ∀ q ∈ R, q.l < q.r) : canonP R = R :=
  (canonP_canon R hp).uniq (h.congr fun x y => (h.mem x y).symm)
theorem canonP_in {s : Int} {l : List R4} (h : InS s l) : InS s (canonP l) := by
  intro q hq
  have h1 := (canonP_canon l h.pos).bd 0 s 0 s (fun x y hx => h.in x y hx) q hq
  omega
theorem canonP_idem {s : Int} {l : List R4} (h : InS s l) : canonP (canonP l) = canonP l :=
  (canonP_canon l h.pos).own (canonP_in h).pos
theorem mkRect_in (r : List Int) (s : Int) (hs : 1 ≤ s) : 0 ≤ (mkRect r s).l ∧ (mkRect r s).l < (mkRect r s).r ∧ (mkRect r s).r ≤ s ∧ 0 ≤ (mkRect r s).b ∧ (mkRect r s).b < (mkRect r s).t ∧ (mkRect r s).t ≤ s := by
  have h1 := nx_bd r s hs
  have h2 := nx_bd r.tail s hs
  have h3 := nx_bd r.tail.tail (s - nx r s) (by omega)
  have h4 := nx_bd r.tail.tail.tail (s - nx r.tail s) (by omega)
  simp only [mkRect]
  omega
theorem mkRects_in (s : Int) (hs : 1 ≤ s) : ∀ (n : Nat) (r : List Int), InS s (mkRects n r s).1 ∧ (mkRects n r s).1.length = n
  | 0, r => ⟨by intro q hq; simp [mkRects] at hq, rfl⟩
  | n + 1, r => by
    obtain ⟨h1, h2⟩ := mkRects_in s hs n r.tail.tail.tail.tail
    refine ⟨?_, by simp [mkRects, h2]⟩
    intro q hq
    rcases List.mem_cons.1 (show q ∈ mkRect r s :: (mkRects n r.tail.tail.tail.tail s).1 from hq) with rfl | hq
    · exact mkRect_in r s hs
    · exact h1 q hq
structure Reg (s : Int) (m : Nat) (l : List R4) : Prop where
  ins : InS s l
  canon : canonP l = l
  len : l.length ≤ m
theorem ofP_reg (s : Int) (hs1 : s ≤ 1000) (l : List R4) (hl : InS s l) (n : Nat) (hn : l.length ≤ n) (hm : (2 * n - 1) * n ≤ 120) (hn2 : n ≤ 120) : ofP l = (canonP l, 0) ∧ Reg s ((2 * n - 1) * n) (canonP l) := by
  have h1 := canonP_len l
  have h2 : (2 * l.length - 1) * l.length ≤ (2 * n - 1) * n := Nat.mul_le_mul (by omega) hn
  refine ⟨?_, canonP_in hl, canonP_idem hl, by omega⟩
  unfold ofP
  rw [if_neg (by omega), if_pos (hl.ok hs1), if_neg (by omega)]
theorem Reg.valid {s : Int} {m : Nat} {l : List R4} (h : Reg s m l) (hs : s ≤ 1000) (hm : m ≤ 120) : validP l = true := by
  unfold validP
  rw [h.ins.ok hs, decide_eq_true (Nat.le_trans h.len hm), decide_eq_true h.canon]
  rfl
end Go.Proofs.YtfmkmhhghmdakaaGreatDoor
