/- Contract: tape: a tape with some orders, the last of which are not safe. -/
import Derived.Test.YtbkfdpdcnjecbaaTi
namespace Go.Proofs.Ytbkfdpdcnjecbaa
open Go.RowKit
set_option linter.unusedVariables false

/-- What tape leaves. -/
def TapeLPost (w : World) (g : Nat) (t : TS) (e : Ending) (w' : World) : Prop :=
  ∃ A n c B m d v, e = .returned (.tuple #[.agg #[.slice A n c, .slice B m d], v]) ∧ Sl8 w' A n c t.s ∧ Sl8 w' B m d t.u ∧ w'.ownsRow w.heap.size 32 4 v t.os.length (ordCells t.os) ∧ TapeAt w' g t.r ∧ w.grownBy w' (some g) ∧
    (0 < n → ∀ ad, A = some ad → w.heap.size ≤ ad.block ∧ v.ownBlock ≠ some ad.block) ∧ (0 < m → ∀ ad, B = some ad → w.heap.size ≤ ad.block ∧ v.ownBlock ≠ some ad.block)

set_option maxHeartbeats 2000000 in
set_option maxRecDepth 100000 in
theorem tape_any (g : Nat) (r : List Int) (w : World) (ht : TapeAt w g r) :
    Calls Try.prog 19 #[.pointer (some ⟨g, 0, none⟩)] w (TapeLPost w g (mkTape r)) := by
  obtain ⟨i0, hi, hz0, hz1, hz2⟩ := info_parts Try.infoOrder
  have hlt := ht.lt
  have Ht := Lib.hid ht
  have hn6 := nx_bd r 6 (by omega)
  clear ht
  go_enter Try.func19, Try.ntmps19
  go_wp2_with fail
  refine (next_any g r 6 _ ((Ht.out.alloc _).alloc _) (by omega)).mono ?_
  rintro e w1 ⟨rfl, ht1, hg1⟩
  have hbx : w1.heap[w.heap.size]? = some (.cells #[.slice none 0 0, .slice none 0 0] 28 (0, 0)) ∧ w1.heap[w.heap.size + 1]? = some (.cells #[.slice none 0 0, .slice none 0 0] 28 (0, 0)) :=
    ⟨(hg1.block _ (by simp; omega) (by intro e; injection e; omega)).trans (heap_alloc2_old w _ _), (hg1.block _ (by simp) (by intro e; injection e; omega)).trans (heap_alloc2_new w _ _)⟩
  have hs1 : w.heap.size + 1 < w1.heap.size := by have := hg1.size; simp at this; omega
  have hgw : w.grownBy w1 (some g) := ⟨hg1.os, hg1.tape, hg1.output, by omega, fun i hi hne => (hg1.block i (by simp; omega) hne).trans ((Below.heap_alloc _ _ _ (by simp; omega)).trans (Below.heap_alloc w _ i hi))⟩
  have Ht1 := Lib.hid ht1
  have Hbx := Lib.hid hbx
  have Hgw := Lib.hid hgw
  have Hmk : Hid (mkTape r = runT (nx r 6).toNat ⟨[], [], [], 0, r.tail⟩) := rfl
  obtain ⟨N, hN⟩ := Int.eq_ofNat_of_zero_le hn6.1
  rw [hN] at Hmk hn6 ⊢
  rw [Int.toNat_natCast] at Hmk
  clear ht1 hg1 hbx hgw hN Ht
  go_wp2
  go_loopw [5, 6, 7] (fun l nu k wr => ∃ (j : Nat) (t : TS) (A : Option Addr) (n c : Nat) (B : Option Addr) (m d : Nat), k = .int .i64 (j : Int) ∧ nu = .int .i64 t.n ∧ runT j t = mkTape r ∧ Fine t ∧ t.os.length + j ≤ 5 ∧ t.n + 3 * j ≤ 100 ∧
      TInv w wr g A n c B m d l t.os t.s t.u t.r) (fun _ _ k _ => (intOf k).toNat)
  case atStart =>
    exact ⟨N, ⟨[], [], [], 0, r.tail⟩, none, 0, 0, none, 0, 0, rfl, rfl, Hmk.out.symm, ⟨rfl, trivial, Int.le_refl _, Int.le_refl _⟩, by simp; omega, by simp; omega, ⟨Hbx.out.1, Hbx.out.2, Sl8.nil_ _, Sl8.nil_ _, World.ownsRow_nil _ _ _ _, Ht1.out, Hgw.out, fun h => absurd h (by omega), fun h => absurd h (by omega)⟩⟩
  case round =>
    obtain ⟨j, t, A, n, c, B, m, d, rfl, rfl, hrun, hfine, hcnt, hnum, hinv⟩ := hrel
    have Hrun := Lib.hid hrun
    have Hfine := Lib.hid hfine
    have Hinv := Lib.hid hinv
    have hsz1 := hinv.lt
    have tlow := hfine.low
    clear hrun hfine hinv
    by_cases hj : 0 < j
    · obtain ⟨j, rfl⟩ : ∃ i, j = i + 1 := ⟨j - 1, by omega⟩
      have hx3 := nx_bd t.r 3 (by omega)
      have hnum' : t.n + 3 * ((j : Int) + 1) ≤ 100 := by omega
      have Hst := Lib.hid (step_write t Hfine.out (by omega) (by omega))
      have Hsf := Lib.hid (step_fine t Hfine.out (by omega) (by omega))
      have hjc : ((j + 1 : Nat) : Int) = (j : Int) + 1 := by omega
      rw [hjc]
      clear hjc hnum
      go_wp2_with fail
      refine (range_any g t.r 1 3 _ Hinv.out.tp (by omega) (by omega) (by omega)).mono ?_
      rintro e wa ⟨rfl, hta, hga⟩
      have Hia := Lib.hid (Hinv.out.next hlt hga hta)
      clear hta hga
      simp only [show (3 : Int) - 1 + 1 = 3 from rfl]
      go_wp2_with fail
      refine (order2_any g t.r.tail (t.n + (1 + nx t.r 3)) _ Hia.out.tp).mono ?_
      rintro e wb ⟨rfl, htb, hgb⟩
      have Hib := Lib.hid ((Hia.out.next hlt hgb htb).below hlt ((Below.refl _ _).alloc (Nat.le_refl _) (.cells #[.int .i64 (mkO t.r.tail (t.n + (1 + nx t.r 3))).n, .int .i64 (mkO t.r.tail (t.n + (1 + nx t.r 3))).f, .int .i64 (mkO t.r.tail (t.n + (1 + nx t.r 3))).a, .int .i64 (mkO t.r.tail (t.n + (1 + nx t.r 3))).d] 32)))
      have hib := Hia.out.next hlt hgb htb
      have t0 : wb.cell? ⟨w.heap.size + 1, 0, none⟩ = some (.slice A n c) := cell_of_row wb _ 0 _ _ _ hib.b1
      have t1 : wb.cell? ⟨w.heap.size + 1, 1, none⟩ = some (.slice B m d) := cell_of_row wb _ 1 _ _ _ hib.b1
      have hsb := hib.lt
      generalize hoe : mkO t.r.tail (t.n + (1 + nx t.r 3)) = o at *
      have Hoeq := Lib.hid hoe
      clear hoe
      clear hib htb hgb
      go_wp2_with fail
      have Hst1 : Hid (writeB t.s t.u o = (t.u ++ recB o, 0)) := Hst.out.1
      have hAl := Hib.out.sA.len
      have hBl := Hib.out.sB.len
      have hbytes := congrArg List.length Hfine.out.bytes
      rw [List.length_append, recs_len] at hbytes
      have hns : n ≤ 100000 ∧ m ≤ 90000 := by omega
      clear hAl hBl hbytes
      refine (writeR_any A B n c m d t.s t.u o _ hns Hib.out.sA Hib.out.sB).mono ?_
      rintro e wc ⟨A', n', c', B', m', d', rfl, hA', hB', hbc, hfr⟩
      rw [Hst1.out] at hB' hfr ⊢
      have hfr' := hfr rfl
      have hic := Hib.out.below hlt hbc
      have Hic := Lib.hid hic
      have HA' := Lib.hid hA'
      have HB' := Lib.hid hB'
      have t0 : wc.cell? ⟨w.heap.size + 1, 0, none⟩ = some (.slice A n c) := cell_of_row wc _ 0 _ _ _ hic.b1
      have t1 : wc.cell? ⟨w.heap.size + 1, 1, none⟩ = some (.slice B m d) := cell_of_row wc _ 1 _ _ _ hic.b1
      have f0 : wc.frozen? ⟨w.heap.size + 1, 0, none⟩ = false := frozen_of_row wc _ 0 _ _ hic.b1
      have f1 : wc.frozen? ⟨w.heap.size + 1, 1, none⟩ = false := frozen_of_row wc _ 1 _ _ hic.b1
      have ho : wc.heap[wb.heap.size]? = some (.cells #[.int .i64 o.n, .int .i64 o.f, .int .i64 o.a, .int .i64 o.d] 32 (0, 0)) := (hbc.block wb.heap.size (by simp)).trans (heap_alloc_new wb _)
      have hol := fun k h => (Hib.out.own.lt k h).2
      have HfrA : Hid (0 < n' → ∀ ad, A' = some ad → w.heap.size ≤ ad.block ∧ u5.ownBlock ≠ some ad.block) := fun _ ad h => by
        have h1 := hfr'.1 ad h
        refine ⟨by simp at h1; omega, fun e => ?_⟩
        have := hol _ e
        omega
      have HfrB : Hid (0 < m' → ∀ ad, B' = some ad → w.heap.size ≤ ad.block ∧ u5.ownBlock ≠ some ad.block) := fun _ ad h => by
        have h1 := hfr'.2 ad h
        refine ⟨by simp at h1; omega, fun e => ?_⟩
        have := hol _ e
        omega
      have hsc : wb.heap.size < wc.heap.size := by have := hbc.size; simp at this; omega
      have Ho := Lib.hid ho
      clear hA' hB' hfr hfr' hbc hic ho hol
      have hid := Hic.out.store hlt HA'.out HB'.out HfrA.out HfrB.out
      obtain ⟨wd, hwd⟩ : ∃ wd : World, wd = (wc.setCell ⟨w.heap.size + 1, 0, none⟩ (.slice A' n' c')).setCell ⟨w.heap.size + 1, 1, none⟩ (.slice B' m' d') := ⟨_, rfl⟩
      rw [← hwd] at hid
      have Hid4 := Lib.hid hid
      have hod : wd.heap[wb.heap.size]? = some (.cells #[.int .i64 o.n, .int .i64 o.f, .int .i64 o.a, .int .i64 o.d] 32 (0, 0)) := by
        rw [hwd]
        exact (Below.heap_setCell _ _ _ _ (by simp; omega)).trans ((Below.heap_setCell _ _ _ _ (by simp; omega)).trans Ho.out)
      have hsd : wb.heap.size < wd.heap.size := by rw [hwd]; simpa using hsc
      have p0 : wd.cell? ⟨wb.heap.size, 0, none⟩ = some (.int .i64 o.n) := cell_of_row wd _ 0 _ _ _ hod
      have p1 : wd.cell? ⟨wb.heap.size, 1, none⟩ = some (.int .i64 o.f) := cell_of_row wd _ 1 _ _ _ hod
      have p2 : wd.cell? ⟨wb.heap.size, 2, none⟩ = some (.int .i64 o.a) := cell_of_row wd _ 2 _ _ _ hod
      have p3 : wd.cell? ⟨wb.heap.size, 3, none⟩ = some (.int .i64 o.d) := cell_of_row wd _ 3 _ _ _ hod
      have Hwd := Lib.hid hwd
      clear hid hwd hod
      go_upto_region 10 with fail
      rw [← Hwd.out]
      clear t0 t1 f0 f1 Hic Ho HfrA HfrB
      have Hie := Lib.hid (Hid4.out.below hlt ((Below.refl _ _).alloc (Nat.le_refl _) (.cells #[.int .i64 o.n, .int .i64 o.f, .int .i64 o.a, .int .i64 o.d] 32)))
      go_upto_region 11 with (first
        | (at_builtin
           refine wpList_append_any _ rfl (.tmp 28) (.tmp 30) 29 rfl (w.heap.size + 2) 32 i0 (.agg #[.int .i64 0, .int .i64 0, .int .i64 0, .int .i64 0]) 4 32 Try.underlying29 hi hz0 hz1 hz2 rfl (by omega) u5 t.os.length (ordCells t.os) rfl Hie.out.own (wd.heap.size + 1) (some ⟨wd.heap.size, 0, none⟩) 1 1 [.int .i64 o.n, .int .i64 o.f, .int .i64 o.a, .int .i64 o.d] rfl ?_ (by simp [Value.oneCell']) (by unfold maxLen; omega) (by omega) (by simp; omega) ?_
           · have := (Lies.new wd 32 #[.int .i64 o.n, .int .i64 o.f, .int .i64 o.a, .int .i64 o.d] 1 _ rfl _ rfl).reads (size := 4) rfl
             rwa [World.size_alloc] at this
           intro l' wf hownf hgf hatf)
        | fail)
      have Hif := Lib.hid (Hie.out.push hlt hownf hgf hatf)
      clear hownf hgf hatf
      go_wp2_with fail
      refine (one_any g _ 3 _ Hif.out.tp (by omega) (by omega)).mono ?_
      rintro e wg ⟨rfl, htg, hgg⟩
      have Hig := Lib.hid (Hif.out.next hlt hgg htg)
      clear htg hgg
      have hig := Hig.out
      have t0 : wg.cell? ⟨w.heap.size + 1, 0, none⟩ = some (.slice A' n' c') := cell_of_row wg _ 0 _ _ _ hig.b1
      have t1 : wg.cell? ⟨w.heap.size + 1, 1, none⟩ = some (.slice B' m' d') := cell_of_row wg _ 1 _ _ _ hig.b1
      have hsg := hig.lt
      clear hig
      have Hrun2 : Hid (runT j (stepT t) = mkTape r) := Hrun.out
      have Hso : Hid (o = mkO t.r.tail (t.n + (1 + nx t.r 3))) := Hoeq.out.symm
      have Hstep : Hid (stepT t = if oneB t.r.tail.tail.tail.tail.tail 3 then ⟨t.s ++ (t.u ++ recB o), [], t.os ++ [o], t.n + (1 + nx t.r 3), t.r.tail.tail.tail.tail.tail.tail⟩ else ⟨t.s, t.u ++ recB o, t.os ++ [o], t.n + (1 + nx t.r 3), t.r.tail.tail.tail.tail.tail.tail⟩) := by
        have h1 := Hst1.out
        show stepT t = _
        unfold stepT
        dsimp only
        rw [← Hso.out, h1]
      rcases hone : oneB t.r.tail.tail.tail.tail.tail 3 with _ | _
      · have Hs2 : Hid (stepT t = ⟨t.s, t.u ++ recB o, t.os ++ [o], t.n + (1 + nx t.r 3), t.r.tail.tail.tail.tail.tail.tail⟩) := by
          show stepT t = _
          rw [Hstep.out, hone]
          rfl
        clear hone
        go_wp2
        go_roundw
        case rel =>
          have h1 := Hsf.out
          refine ⟨j, stepT t, A', n', c', B', m', d', by go_num, by rw [Hs2.out], Hrun2.out, h1.1, by omega, by omega, ?_⟩
          rw [Hs2.out]
          exact Hig.out
        case measure => simp [intOf]
      · have Hs2 : Hid (stepT t = ⟨t.s ++ (t.u ++ recB o), [], t.os ++ [o], t.n + (1 + nx t.r 3), t.r.tail.tail.tail.tail.tail.tail⟩) := by
          show stepT t = _
          rw [Hstep.out, hone]
          rfl
        clear hone
        have hAl := Hig.out.sA.len
        have hBl := Hig.out.sB.len
        have hbytes := congrArg List.length Hfine.out.bytes
        rw [List.length_append, recs_len] at hbytes
        have hrl := recB_len o
        have hns2 : n' ≤ 100000 ∧ m' ≤ 100000 := by rw [List.length_append] at hBl; omega
        clear hAl hBl hbytes hrl
        go_wp2_with fail
        refine (syncR_any A' B' n' c' m' d' t.s (t.u ++ recB o) _ hns2 Hig.out.sA Hig.out.sB).mono ?_
        rintro e wh ⟨C, cq, rfl, hC, hCo, hbh⟩
        have Hih := Lib.hid (Hig.out.below hlt hbh)
        have hih := Hih.out
        have t0 : wh.cell? ⟨w.heap.size + 1, 0, none⟩ = some (.slice A' n' c') := cell_of_row wh _ 0 _ _ _ hih.b1
        have t1 : wh.cell? ⟨w.heap.size + 1, 1, none⟩ = some (.slice B' m' d') := cell_of_row wh _ 1 _ _ _ hih.b1
        have f0 : wh.frozen? ⟨w.heap.size + 1, 0, none⟩ = false := frozen_of_row wh _ 0 _ _ hih.b1
        have f1 : wh.frozen? ⟨w.heap.size + 1, 1, none⟩ = false := frozen_of_row wh _ 1 _ _ hih.b1
        have hol := fun k h => (Hig.out.own.lt k h).2
        have HfC : Hid (0 < (t.s ++ (t.u ++ recB o)).length → ∀ ad, C = some ad → w.heap.size ≤ ad.block ∧ l'.ownBlock ≠ some ad.block) := fun _ ad h => by
          have h1 := own_base hCo ad.block (by rw [h]; rfl)
          refine ⟨by omega, fun e => ?_⟩
          have := hol _ e
          omega
        have HC := Lib.hid hC
        clear hC hCo hbh hih hol
        go_wp2
        go_roundw
        case rel =>
          have h1 := Hsf.out
          have h2 := Hih.out.store hlt HC.out (Sl8.nil_ wh) HfC.out (fun h => absurd h (by omega))
          refine ⟨j, stepT t, C, (t.s ++ (t.u ++ recB o)).length, cq, none, 0, 0, by go_num, by rw [Hs2.out], Hrun2.out, h1.1, by omega, by omega, ?_⟩
          rw [Hs2.out]
          simpa using h2
        case measure => simp [intOf]
    · obtain rfl : j = 0 := by omega
      have hmk : Hid (t = mkTape r) := Hrun.out
      have r0 : wr.cell? ⟨w.heap.size, 0, none⟩ = some (.slice none 0 0) := cell_of_row wr _ 0 _ _ _ Hinv.out.b0
      have r1 : wr.cell? ⟨w.heap.size, 1, none⟩ = some (.slice none 0 0) := cell_of_row wr _ 1 _ _ _ Hinv.out.b0
      have f0 : wr.frozen? ⟨w.heap.size, 0, none⟩ = false := frozen_of_row wr _ 0 _ _ Hinv.out.b0
      have f1 : wr.frozen? ⟨w.heap.size, 1, none⟩ = false := frozen_of_row wr _ 1 _ _ Hinv.out.b0
      have t0 : wr.cell? ⟨w.heap.size + 1, 0, none⟩ = some (.slice A n c) := cell_of_row wr _ 0 _ _ _ Hinv.out.b1
      have t1 : wr.cell? ⟨w.heap.size + 1, 1, none⟩ = some (.slice B m d) := cell_of_row wr _ 1 _ _ _ Hinv.out.b1
      go_wp2
      refine bodyPost_ret (v := .tuple #[.agg #[.slice A n c, .slice B m d], u5]) (by simp [results, Try.results19, go_sem, *]) rfl ?_
      rw [← hmk.out]
      refine ⟨_, _, _, _, _, _, _, rfl, Hinv.out.sA.box Hinv.out.b0 _ _, Hinv.out.sB.box Hinv.out.b0 _ _, own_mono (ownsRow_setCell_below (ownsRow_setCell_below Hinv.out.own (a := ⟨w.heap.size, 0, none⟩) (by simp) _) (a := ⟨w.heap.size, 1, none⟩) (by simp) _) (show w.heap.size ≤ w.heap.size + 2 by omega),
        (Hinv.out.tp.setCell (p := ⟨w.heap.size, 0, none⟩) hlt _).setCell (p := ⟨w.heap.size, 1, none⟩) hlt _, only_setCell (only_setCell Hinv.out.gr (.inr (by simp)) _) (.inr (by simp)) _, Hinv.out.fA, Hinv.out.fB⟩
end Go.Proofs.Ytbkfdpdcnjecbaa
