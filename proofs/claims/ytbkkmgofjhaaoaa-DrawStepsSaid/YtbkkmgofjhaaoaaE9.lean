/- Contract: second.Draw: a draw that has come some way. -/
import Derived.Test.YtbkkmgofjhaaoaaE8
import Derived.Test.YtbkkmgofjhaaoaaHT
import Derived.Test.YtbkkmgofjhaaoaaD7R
import Derived.Test.YtbkkmgofjhaaoaaDAb
import Derived.Test.YtbkkmgofjhaaoaaDAc
namespace Go.Proofs.Ytbkkmgofjhaaoaa
open Go.RowKit
set_option linter.unusedVariables false
set_option linter.unusedSimpArgs false

set_option maxHeartbeats 16000000 in
set_option maxRecDepth 100000 in
theorem lots_any (g : Nat) (r : List Int) (most : Int) (w : World) (ht : TapeAt w g r) (hm0 : 0 ≤ most) (hm1 : most ≤ 1000) :
    Calls Try.prog 11 #[.pointer (some ⟨g, 0, none⟩), .int .i64 most] w (LotsPost w g) := by
  obtain ⟨iu0, iuh, iuz0, iuz1, iuz2⟩ := info_parts Try.infoU
  have hg := ht.lt
  have Ht := Lib.hid ht
  have hnx := nx_bd r (4 - 1 + 1) (by omega)
  obtain ⟨n, hn⟩ : ∃ n : Nat, 1 + nx r (4 - 1 + 1) = (n : Int) := Int.eq_ofNat_of_zero_le (by omega)
  have HRg : Hid (∀ W, TapeAt W g r → Calls Try.prog 37 #[.pointer (some ⟨g, 0, none⟩), .int .i64 1, .int .i64 4] W (NextPost W g r (n : Int))) := Lib.hid (fun W h => by have := range_any g r 1 4 W h (by omega) (by omega) (by omega); rw [hn] at this; exact this)
  have hn1 : 1 ≤ n := by omega
  have hn4 : n ≤ 4 := by omega
  obtain ⟨d0, hd0⟩ : ∃ d0, newD n = d0 := ⟨_, rfl⟩
  have HNw : Hid (∀ W, Calls Try.prog 27 #[.int .i64 (n : Int)] W (DrEPost W (d0, 0))) := Lib.hid (fun W => by
    have := newR_any (n : Int) W
    rw [show newE (n : Int) = (newD n, 0) by unfold newE; rw [if_neg (by omega)]; rfl, hd0] at this
    exact this)
  have HL0 : Hid (Lens d0 n) := Lib.hid (by rw [← hd0]; exact Lens.new n)
  clear hn hnx ht hd0
  go_enter Try.func11, Try.ntmps11
  go_upto_region 4 with (first
    | (go_at_call 37
       refine (HRg.out _ (Ht.out.alloc _)).mono ?_
       rintro e w1 ⟨rfl, ht1, hg1⟩
       have Ht1 := Lib.hid ht1
       have Hg1 := Lib.hid hg1
       clear ht1 hg1)
    | (go_at_call 27
       refine (HNw.out _).mono ?_
       rintro e w2 ⟨q, rfl, hown2, hb2⟩
       have Hown2 := Lib.hid hown2
       have Hb2 := Lib.hid hb2
       have hz2 : w2.heap[w1.heap.size]? = some lotsZero := (hb2.block _ (by simp)).trans (heap_alloc_new w1 _)
       have Hz2 := Lib.hid hz2
       have z0 := cell_of_row w2 w1.heap.size 0 _ _ _ hz2
       have z1 := cell_of_row w2 w1.heap.size 1 _ _ _ hz2
       have z2 := cell_of_row w2 w1.heap.size 2 _ _ _ hz2
       have z3 := cell_of_row w2 w1.heap.size 3 _ _ _ hz2
       have z4 := cell_of_row w2 w1.heap.size 4 _ _ _ hz2
       have y0 := frozen_of_row w2 w1.heap.size 0 _ _ hz2
       have y1 := frozen_of_row w2 w1.heap.size 1 _ _ hz2
       have y2 := frozen_of_row w2 w1.heap.size 2 _ _ hz2
       have y3 := frozen_of_row w2 w1.heap.size 3 _ _ hz2
       have y4 := frozen_of_row w2 w1.heap.size 4 _ _ hz2
       clear hown2 hb2 hz2)
    | fail)
  clear z0 z1 z2 z3 z4 y0 y1 y2 y3 y4
  obtain ⟨wk, hwk⟩ : ∃ wk, (((((w2.setCell ⟨w1.heap.size, 0, none⟩ (.int .i64 d0.st)).setCell ⟨w1.heap.size, 1, none⟩ (.slice q.a1 d0.se.length q.c1)).setCell ⟨w1.heap.size, 2, none⟩ (.slice q.a2 d0.sd.length q.c2)).setCell ⟨w1.heap.size, 3, none⟩ (.slice q.a3 d0.sx.length q.c3)).setCell ⟨w1.heap.size, 4, none⟩ (.slice q.a4 d0.rv.length q.c4)) = wk := ⟨_, rfl⟩
  rw [hwk]
  have hs1 := Hg1.out.size
  have hs2 := Hb2.out.size
  rw [World.size_alloc] at hs1 hs2
  have hsk : wk.heap.size = w2.heap.size := by rw [← hwk]; simp [World.setCell]
  have HbX : Hid (wk.heap[w1.heap.size]? = some (.cells (lotsCells q d0 (.slice none 0 0) (.slice none 0 0)) 32 (0, 0))) := Lib.hid (by rw [← hwk]; exact lots_put5 (q := ⟨none, 0, none, 0, none, 0, none, 0⟩) (d := zeroD) (u := .slice none 0 0) (v := .slice none 0 0) Hz2.out)
  have HownK : Hid (OwnD wk (w1.heap.size + 1) q d0) := Lib.hid (by
    have h := Hown2.out
    rw [World.size_alloc] at h
    rw [← hwk]; exact h.old box5_only (by omega))
  have HrK : Hid (wk.heap[w.heap.size]? = some lotsZero) := Lib.hid (by
    have h1 : w1.heap[w.heap.size]? = some lotsZero := (Hg1.out.block _ (by simp) (fun e => by injection e with e; omega)).trans (heap_alloc_new w _)
    have h2 : (w1.alloc lotsZero).heap[w.heap.size]? = some lotsZero := (Below.heap_alloc w1 _ _ (by omega)).trans h1
    have h3 := (Hb2.out.block _ (by simp; omega)).trans h2
    rw [← hwk]
    exact (World.grownBy.block box5_only _ (by omega) (fun e => by injection e with e; omega)).trans h3)
  have Htw : Hid (Two w wk wk g w1.heap.size (.cells (lotsCells q d0 (.slice none 0 0) (.slice none 0 0)) 32 (0, 0)) (.slice none 0 0) (.slice none 0 0) [] [] r.tail []) := Lib.hid (by
    have h1 : w.grownBy w1 (some g) := only_trans (only_alloc (World.grownBy.refl _ _) _) Hg1.out
    have h2 : w.grownBy w2 (some g) := only_below (only_alloc h1 _) Hb2.out (by simp; omega)
    have h3 : TapeAt w2 g r.tail := (Ht1.out.alloc _).below Hb2.out (by simp; omega)
    have h4 : w2.grownBy wk (some w1.heap.size) := by rw [← hwk]; exact box5_only
    exact Two.start hg (by omega) (by omega) (h3.grown h4 (fun y hy => by injection hy with hy; omega)) (only_grown h2 h4 (fun y hy => by injection hy with hy; omega)) HbX.out)
  obtain ⟨X, hX⟩ : ∃ X, w1.heap.size = X := ⟨_, rfl⟩
  rw [hX] at HbX HownK Htw ⊢
  have hwX : w.heap.size < X := by omega
  clear hwk Hg1 Hown2 Hb2 Hz2 Ht1 hs1 hs2 hsk hX HRg HNw
  have HSa : Hid (∀ r W, TapeAt W g r → Calls Try.prog 40 #[.pointer (some ⟨g, 0, none⟩)] W fun e w' => e = .returned (.int .u64 (saltI r)) ∧ TapeAt w' g r.tail.tail ∧ W.grownBy w' (some g)) := Lib.hid (fun r W h => salt_any g r W h)
  go_wp2
  go_loopw [7] (fun i wr => ∃ (j : Nat) (u v : Value) (l k r' : List Int), j ≤ n ∧ i = .int .i64 (j : Int) ∧ Two w wk wr g X (.cells (lotsCells q d0 u v) 32 (0, 0)) u v l k r' [] ∧ l.length = j ∧ k.length = j) (fun i _ => n - (intOf i).toNat)
  case atStart => exact ⟨0, _, _, _, _, _, Nat.zero_le _, rfl, Htw.out, rfl, rfl⟩
  case round =>
    obtain ⟨j, u, v, l, k, r', hj, rfl, htw, hl, hk⟩ := hrel
    have HT0 := Lib.hid htw
    have Hl := Lib.hid hl
    have Hk := Lib.hid hk
    have hl4 : l.length ≤ n := by omega
    have hk4 : k.length ≤ n := by omega
    clear htw hl hk
    by_cases hjn : j < n
    · have hjn' : (j : Int) < (n : Int) := by omega
      go_wp2
      have HT := Lib.hid (HT0.out.drew)
      have c5 := (LotsC.of HT.out.blk).c5
      have c6 := (LotsC.of HT.out.blk).c6
      clear HT0
      refine wp_region_held_tail (S := fun w' => w'.cell? ⟨X, 5, none⟩ = some u ∧ w'.cell? ⟨X, 6, none⟩ = some v) 13 (by kernel_rfl) (by kernel_rfl) (by kernel_rfl) ?_
      have hHeld : (fun w' : World => w'.cell? ⟨X, 5, none⟩ = some u ∧ w'.cell? ⟨X, 6, none⟩ = some v) wr.drew := ⟨c5, c6⟩
      simp only [List.take_succ_cons, List.take_zero, List.replicate]
      refine wpAnyH_take (i := 0) (v := ?vva0) rfl (by kernel_rfl) (by kernel_rfl) (by kernel_rfl) (fun _ _ _ h => h) (Or.inl ⟨by rfl, ?hya0⟩) hHeld ?resta0; (case hya0 => (intro w hSw; (try dsimp only at hSw); go_simp; all_goals (with_reducible rfl))); simp only [Act.put, List.setIfInBounds_toArray, List.set_cons_zero, List.set_cons_succ]
      refine wpAnyH_take (i := 1) (v := ?vva1) rfl (by kernel_rfl) (by kernel_rfl) (by kernel_rfl) (fun _ _ _ h => h) (Or.inl ⟨by rfl, ?hya1⟩) hHeld ?resta1; (case hya1 => (intro w hSw; (try dsimp only at hSw); go_simp; all_goals (with_reducible rfl))); simp only [Act.put, List.setIfInBounds_toArray, List.set_cons_zero, List.set_cons_succ]
      refine wpAnyH_take (i := 2) (v := ?vva2) rfl (by kernel_rfl) (by kernel_rfl) (by kernel_rfl) (fun _ _ _ h => h) (Or.inl ⟨by rfl, ?hya2⟩) hHeld ?resta2; (case hya2 => (intro w hSw; (try dsimp only at hSw); go_simp; all_goals (with_reducible rfl))); simp only [Act.put, List.setIfInBounds_toArray, List.set_cons_zero, List.set_cons_succ]
      refine wpAnyH_take (i := 6) (v := ?vva6) rfl (by kernel_rfl) (by kernel_rfl) (by kernel_rfl) (fun _ _ _ h => h) (Or.inl ⟨by rfl, ?hya6⟩) hHeld ?resta6; (case hya6 => (intro w hSw; (try dsimp only at hSw); go_simp; all_goals (with_reducible rfl))); simp only [Act.put, List.setIfInBounds_toArray, List.set_cons_zero, List.set_cons_succ]
      refine wpAnyH_take (i := 7) (v := ?vva7) rfl (by kernel_rfl) (by kernel_rfl) (by kernel_rfl) (fun _ _ _ h => h) (Or.inl ⟨by rfl, ?hya7⟩) hHeld ?resta7; (case hya7 => (intro w hSw; (try dsimp only at hSw); go_simp; all_goals (with_reducible rfl))); simp only [Act.put, List.setIfInBounds_toArray, List.set_cons_zero, List.set_cons_succ]
      refine wpAnyH_take (i := 8) (v := ?vva8) rfl (by kernel_rfl) (by kernel_rfl) (by kernel_rfl) (fun _ _ _ h => h) (Or.inl ⟨by rfl, ?hya8⟩) hHeld ?resta8; (case hya8 => (intro w hSw; (try dsimp only at hSw); go_simp; all_goals (with_reducible rfl))); simp only [Act.put, List.setIfInBounds_toArray, List.set_cons_zero, List.set_cons_succ]
      refine wpAnyH_ready (rs := [3]) (by kernel_rfl) (by simp) ?_; refine AllReadyH.cons rfl (fun K hK => ?_) AllReadyH.nil
      go_simp
      go_at_call 40
      refine (HSa.out _ _ (by first | with_reducible exact HT.out.tp | with_reducible exact (HT.out.alloc _).tp | with_reducible exact ((HT.out.alloc _).alloc _).tp)).mono ?_
      rintro e w3 ⟨rfl, ht3, hg3⟩
      (first | (with_reducible (replace HT := Lib.hid (HT.out.tape hg3 ht3))) | (with_reducible (replace HT := Lib.hid ((HT.out.alloc _).tape hg3 ht3))) | (with_reducible (replace HT := Lib.hid (((HT.out.alloc _).alloc _).tape hg3 ht3))))
      clear ht3 hg3
      refine hK.out _ _ ⟨(LotsC.of HT.out.blk).c5, (LotsC.of HT.out.blk).c6⟩ (fun hHeld => ?_); clear hK K; (try simp only [Act.put, List.setIfInBounds_toArray, List.set_cons_zero, List.set_cons_succ])
      refine wpAnyH_ready (rs := [4]) (by kernel_rfl) (by simp) ?_; refine AllReadyH.cons rfl (fun K hK => ?_) AllReadyH.nil
      go_simp
      refine hK.out _ _ ⟨(LotsC.of (HT.out.alloc _).blk).c5, (LotsC.of (HT.out.alloc _).blk).c6⟩ (fun hHeld => ?_); clear hK K; (try simp only [Act.put, List.setIfInBounds_toArray, List.set_cons_zero, List.set_cons_succ])
      refine wpAnyH_ready (rs := [5]) (by kernel_rfl) (by simp) ?_; refine AllReadyH.cons rfl (fun K hK => ?_) AllReadyH.nil
      refine step_append_any _ rfl (.tmp 26) (.tmp 29) 23 rfl wk.heap.size 27 iu0 (.int .u64 0) 1 8 Try.underlying23 iuh iuz0 iuz1 iuz2 rfl (by omega) u l.length (l.map (Value.int .u64)) rfl (by first | with_reducible exact HT.out.o1 | with_reducible exact (HT.out.alloc _).o1 | with_reducible exact ((HT.out.alloc _).alloc _).o1) _ _ 1 1 [.int .u64 (saltI r')] rfl (by first | with_reducible exact (HT.out.alloc _).news (by simp) | with_reducible exact ((HT.out.alloc _).alloc _).news (by simp) | with_reducible exact HT.out.news (by simp)) (by simp [Value.oneCell']) (by unfold maxLen; omega) (by omega) (by first | with_reducible exact HT.out.sz | with_reducible exact (HT.out.alloc _).sz | with_reducible exact ((HT.out.alloc _).alloc _).sz) ?_
      intro v5 w5 hown5 hg5 hat5
      obtain ⟨A5, e5, rfl, _, _, _⟩ := own_slice hown5
      (first | (with_reducible (replace HT := Lib.hid (HT.out.app1 hown5 hg5 hat5))) | (with_reducible (replace HT := Lib.hid ((HT.out.alloc _).app1 hown5 hg5 hat5))) | (with_reducible (replace HT := Lib.hid (((HT.out.alloc _).alloc _).app1 hown5 hg5 hat5))))
      clear hown5 hg5 hat5
      refine hK.out _ _ ⟨(LotsC.of HT.out.blk).c5, (LotsC.of HT.out.blk).c6⟩ (fun hHeld => ?_); clear hK K; (try simp only [Act.put, List.setIfInBounds_toArray, List.set_cons_zero, List.set_cons_succ])
      refine wpAnyH_take (i := 12) (v := ?vva12) rfl (by kernel_rfl) (by kernel_rfl) (by kernel_rfl) (fun _ _ _ h => h) (Or.inl ⟨by rfl, ?hya12⟩) hHeld ?resta12; (case hya12 => (intro w hSw; (try dsimp only at hSw); go_simp; all_goals (with_reducible rfl))); simp only [Act.put, List.setIfInBounds_toArray, List.set_cons_zero, List.set_cons_succ]
      refine wpAnyH_ready (rs := [9]) (by kernel_rfl) (by simp) ?_; refine AllReadyH.cons rfl (fun K hK => ?_) AllReadyH.nil
      go_simp
      go_at_call 40
      refine (HSa.out _ _ (by first | with_reducible exact HT.out.tp | with_reducible exact (HT.out.alloc _).tp | with_reducible exact ((HT.out.alloc _).alloc _).tp)).mono ?_
      rintro e w4 ⟨rfl, ht3, hg3⟩
      (first | (with_reducible (replace HT := Lib.hid (HT.out.tape hg3 ht3))) | (with_reducible (replace HT := Lib.hid ((HT.out.alloc _).tape hg3 ht3))) | (with_reducible (replace HT := Lib.hid (((HT.out.alloc _).alloc _).tape hg3 ht3))))
      clear ht3 hg3
      refine hK.out _ _ ⟨(LotsC.of HT.out.blk).c5, (LotsC.of HT.out.blk).c6⟩ (fun hHeld => ?_); clear hK K; (try simp only [Act.put, List.setIfInBounds_toArray, List.set_cons_zero, List.set_cons_succ])
      refine wpAnyH_ready (rs := [10]) (by kernel_rfl) (by simp) ?_; refine AllReadyH.cons rfl (fun K hK => ?_) AllReadyH.nil
      go_simp
      refine hK.out _ _ ⟨(LotsC.of (HT.out.alloc _).blk).c5, (LotsC.of (HT.out.alloc _).blk).c6⟩ (fun hHeld => ?_); clear hK K; (try simp only [Act.put, List.setIfInBounds_toArray, List.set_cons_zero, List.set_cons_succ])
      refine wpAnyH_ready (rs := [11]) (by kernel_rfl) (by simp) ?_; refine AllReadyH.cons rfl (fun K hK => ?_) AllReadyH.nil
      refine step_append_any _ rfl (.tmp 32) (.tmp 35) 23 rfl wk.heap.size 27 iu0 (.int .u64 0) 1 8 Try.underlying23 iuh iuz0 iuz1 iuz2 rfl (by omega) v k.length (k.map (Value.int .u64)) rfl (by first | with_reducible exact HT.out.o2 | with_reducible exact (HT.out.alloc _).o2 | with_reducible exact ((HT.out.alloc _).alloc _).o2) _ _ 1 1 [.int .u64 (saltI r'.tail.tail)] rfl (by first | with_reducible exact (HT.out.alloc _).news (by simp) | with_reducible exact ((HT.out.alloc _).alloc _).news (by simp) | with_reducible exact HT.out.news (by simp)) (by simp [Value.oneCell']) (by unfold maxLen; omega) (by omega) (by first | with_reducible exact HT.out.sz | with_reducible exact (HT.out.alloc _).sz | with_reducible exact ((HT.out.alloc _).alloc _).sz) ?_
      intro v6 w6 hown6 hg6 hat6
      obtain ⟨A6, e6, rfl, _, _, _⟩ := own_slice hown6
      (first | (with_reducible (replace HT := Lib.hid (HT.out.app2 hown6 hg6 hat6))) | (with_reducible (replace HT := Lib.hid ((HT.out.alloc _).app2 hown6 hg6 hat6))) | (with_reducible (replace HT := Lib.hid (((HT.out.alloc _).alloc _).app2 hown6 hg6 hat6))))
      clear hown6 hg6 hat6
      refine hK.out _ _ ⟨(LotsC.of HT.out.blk).c5, (LotsC.of HT.out.blk).c6⟩ (fun hHeld => ?_); clear hK K; (try simp only [Act.put, List.setIfInBounds_toArray, List.set_cons_zero, List.set_cons_succ])
      refine wpAnyH_done (by kernel_rfl) ?_ _
      have hbk := LotsC.of HT.out.blk
      have c65 := hbk.c5
      have c66 := hbk.c6
      have f65 := hbk.f 5
      have f66 := hbk.f 6
      clear hbk hHeld
      show wpList _ _ _ _ _ _
      simp only [List.drop_succ_cons, List.drop_zero]
      go_wp2
      go_roundw
      case rel => exact ⟨j + 1, _, _, _, _, _, by omega, by go_num, HT.out.put, by simp [Hl.out], by simp [Hk.out]⟩
      case measure => simp [intOf]; omega
    · have hjn' : ¬ (j : Int) < (n : Int) := by omega
      have hjn2 : j = n := by omega
      have HX0 : Hid (LX w wr g w.heap.size X n q d0 u v l k r') := Lib.hid (LX.start HT0.out HownK.out HL0.out (by rw [Hl.out]; exact hjn2) (by rw [Hk.out]; exact hjn2) HrK.out (Nat.le_refl _) hwX)
      have hll : l.length = n := HX0.out.la
      have hkl : k.length = n := HX0.out.lb
      have Hll := Lib.hid hll
      have Hkl := Lib.hid hkl
      obtain ⟨bA, cA, rfl, hA1, hA2, hA3, hA4, _, _⟩ := own_at HX0.out.oA (by omega)
      obtain ⟨bB, cB, rfl, hB1, hB2, hB3, hB4, _, _⟩ := own_at HX0.out.oB (by omega)
      unfold maxLen at hA4 hB4
      clear HT0 Htw HownK HrK HbX hll hkl hjn2 hjn Hl Hk hl4 hk4 HL0 HSa
      go_wp2
      obtain ⟨wo, rfl⟩ : ∃ wo : World, wo = wr := ⟨_, rfl⟩
      go_loopw [8] (fun i wr => ∃ (m : Nat) (q : DV) (d : Dr) (r' : List Int), m ≤ n ∧ i = .int .i64 (m : Int) ∧ LX w wr g w.heap.size X n q d (.slice (some ⟨bA, 0, none⟩) n cA) (.slice (some ⟨bB, 0, none⟩) n cB) l k r') (fun i _ => n - (intOf i).toNat)
      case atStart => exact ⟨0, q, d0, r', Nat.zero_le _, rfl, HX0.out⟩
      case round =>
        obtain ⟨m, q, d, r', hm, rfl, hx⟩ := hrel
        have HX := Lib.hid hx
        clear hx HX0
        by_cases hmn : m < n
        · have hmn' : (m : Int) < (n : Int) := by omega
          have hny := nx_bd r' 5 (by omega)
          obtain ⟨y, hy⟩ : ∃ y, nx r' 5 = y := ⟨_, rfl⟩
          have HN := Lib.hid (next_any g r' 5 wr HX.out.tp (by omega))
          rw [hy] at HN hny
          clear hy
          by_cases hy0 : 0 < y
          · go_wp2_with (first | (go_at_call 13; refine HN.out.mono ?_; rintro e w1 ⟨rfl, ht1, hg1⟩; have HX1 := Lib.hid ((HX.out.tape hg1 ht1).below (Below.drew (Below.refl _ _))); clear ht1 hg1) | fail)
            have hml : m < l.length := by have := Hll.out; omega
            have hmk : m < k.length := by have := Hkl.out; omega
            have Hca : Hid (∀ W r'', LX w W g w.heap.size X n q d (.slice (some ⟨bA, 0, none⟩) n cA) (.slice (some ⟨bB, 0, none⟩) n cB) l k r'' → W.cell? ⟨bA, m, none⟩ = some (.int .u64 (l[m]'hml))) := Lib.hid (fun W r'' h => h.ca hml)
            have Hcb : Hid (∀ W r'', LX w W g w.heap.size X n q d (.slice (some ⟨bA, 0, none⟩) n cA) (.slice (some ⟨bB, 0, none⟩) n cB) l k r'' → W.cell? ⟨bB, m, none⟩ = some (.int .u64 (k[m]'hmk))) := Lib.hid (fun W r'' h => h.cb hmk)
            generalize l[m] = sa at *
            generalize k[m] = sb at *
            have ca := Hca.out _ _ HX1.out
            have cb := Hcb.out _ _ HX1.out
            have HSl := Lib.hid (fun W => sealR_any (m : Int) sa sb W)
            generalize sealI (m : Int) sa sb = sv at *
            have HC := Lib.hid (fun W (hW : W = w1.drew) => commitR_any q d (m : Int) sv W (by rw [hW]; exact HX1.out.dr.at) (HX1.out.ln.small hn4))
            have hlx := HX1.out.ln.commit (m : Int) sv
            generalize commitD d (m : Int) sv = x at *
            have Hlx := Lib.hid hlx
            have hbk := HX1.out.cells; have p0 := hbk.c0; have p1 := hbk.c1; have p2 := hbk.c2; have p3 := hbk.c3; have p4 := hbk.c4; have p5 := hbk.c5; have p6 := hbk.c6; have pf0 := hbk.f 0; have pf1 := hbk.f 1; have pf2 := hbk.f 2; have pf3 := hbk.f 3; have pf4 := hbk.f 4; clear hbk
            clear hml hmk hlx
            refine wp_region_held_two (S := (fun w' : World => w'.cell? ⟨X, 0, none⟩ = some (.int .i64 d.st) ∧ w'.cell? ⟨X, 1, none⟩ = some (.slice q.a1 d.se.length q.c1) ∧ w'.cell? ⟨X, 2, none⟩ = some (.slice q.a2 d.sd.length q.c2) ∧ w'.cell? ⟨X, 3, none⟩ = some (.slice q.a3 d.sx.length q.c3) ∧ w'.cell? ⟨X, 4, none⟩ = some (.slice q.a4 d.rv.length q.c4) ∧ w'.cell? ⟨X, 5, none⟩ = some (.slice (some ⟨bA, 0, none⟩) n cA) ∧ w'.cell? ⟨X, 6, none⟩ = some (.slice (some ⟨bB, 0, none⟩) n cB) ∧ w'.cell? ⟨bA, m, none⟩ = some (.int .u64 sa) ∧ w'.cell? ⟨bB, m, none⟩ = some (.int .u64 sb))) 16 (by kernel_rfl) (by kernel_rfl) ?_
            have hHeld : (fun w' : World => w'.cell? ⟨X, 0, none⟩ = some (.int .i64 d.st) ∧ w'.cell? ⟨X, 1, none⟩ = some (.slice q.a1 d.se.length q.c1) ∧ w'.cell? ⟨X, 2, none⟩ = some (.slice q.a2 d.sd.length q.c2) ∧ w'.cell? ⟨X, 3, none⟩ = some (.slice q.a3 d.sx.length q.c3) ∧ w'.cell? ⟨X, 4, none⟩ = some (.slice q.a4 d.rv.length q.c4) ∧ w'.cell? ⟨X, 5, none⟩ = some (.slice (some ⟨bA, 0, none⟩) n cA) ∧ w'.cell? ⟨X, 6, none⟩ = some (.slice (some ⟨bB, 0, none⟩) n cB) ∧ w'.cell? ⟨bA, m, none⟩ = some (.int .u64 sa) ∧ w'.cell? ⟨bB, m, none⟩ = some (.int .u64 sb)) w1.drew := ⟨p0, p1, p2, p3, p4, p5, p6, ca, cb⟩
            simp only [List.take_succ_cons, List.take_zero, List.replicate]
            refine wpAnyH_take (i := 0) (v := ?vvb0) rfl (by kernel_rfl) (by kernel_rfl) (by kernel_rfl) (fun _ _ _ h => h) (Or.inl ⟨by rfl, ?hyb0⟩) hHeld ?restb0; (case hyb0 => (intro w hSw; (try dsimp only at hSw); go_simp; all_goals (with_reducible rfl))); simp only [Act.put, List.setIfInBounds_toArray, List.set_cons_zero, List.set_cons_succ]
            refine wpAnyH_take (i := 1) (v := ?vvb1) rfl (by kernel_rfl) (by kernel_rfl) (by kernel_rfl) (fun _ _ _ h => h) (Or.inl ⟨by rfl, ?hyb1⟩) hHeld ?restb1; (case hyb1 => (intro w hSw; (try dsimp only at hSw); go_simp; all_goals (with_reducible rfl))); simp only [Act.put, List.setIfInBounds_toArray, List.set_cons_zero, List.set_cons_succ]
            refine wpAnyH_take (i := 2) (v := ?vvb2) rfl (by kernel_rfl) (by kernel_rfl) (by kernel_rfl) (fun _ _ _ h => h) (Or.inl ⟨by rfl, ?hyb2⟩) hHeld ?restb2; (case hyb2 => (intro w hSw; (try dsimp only at hSw); go_simp; all_goals (with_reducible rfl))); simp only [Act.put, List.setIfInBounds_toArray, List.set_cons_zero, List.set_cons_succ]
            refine wpAnyH_take (i := 3) (v := ?vvb3) rfl (by kernel_rfl) (by kernel_rfl) (by kernel_rfl) (fun _ _ _ h => h) (Or.inl ⟨by rfl, ?hyb3⟩) hHeld ?restb3; (case hyb3 => (intro w hSw; (try dsimp only at hSw); go_simp; all_goals (with_reducible rfl))); simp only [Act.put, List.setIfInBounds_toArray, List.set_cons_zero, List.set_cons_succ]
            refine wpAnyH_take (i := 4) (v := ?vvb4) rfl (by kernel_rfl) (by kernel_rfl) (by kernel_rfl) (fun _ _ _ h => h) (Or.inl ⟨by rfl, ?hyb4⟩) hHeld ?restb4; (case hyb4 => (intro w hSw; (try dsimp only at hSw); go_simp; all_goals (with_reducible rfl))); simp only [Act.put, List.setIfInBounds_toArray, List.set_cons_zero, List.set_cons_succ]
            refine wpAnyH_take (i := 5) (v := ?vvb5) rfl (by kernel_rfl) (by kernel_rfl) (by kernel_rfl) (fun _ _ _ h => h) (Or.inl ⟨by rfl, ?hyb5⟩) hHeld ?restb5; (case hyb5 => (intro w hSw; (try dsimp only at hSw); go_simp; all_goals (with_reducible rfl))); simp only [Act.put, List.setIfInBounds_toArray, List.set_cons_zero, List.set_cons_succ]
            refine wpAnyH_take (i := 6) (v := ?vvb6) rfl (by kernel_rfl) (by kernel_rfl) (by kernel_rfl) (fun _ _ _ h => h) (Or.inl ⟨by rfl, ?hyb6⟩) hHeld ?restb6; (case hyb6 => (intro w hSw; (try dsimp only at hSw); go_simp; all_goals (with_reducible rfl))); simp only [Act.put, List.setIfInBounds_toArray, List.set_cons_zero, List.set_cons_succ]
            refine wpAnyH_take (i := 7) (v := ?vvb7) rfl (by kernel_rfl) (by kernel_rfl) (by kernel_rfl) (fun _ _ _ h => h) (Or.inl ⟨by rfl, ?hyb7⟩) hHeld ?restb7; (case hyb7 => (intro w hSw; (try dsimp only at hSw); go_simp; all_goals (with_reducible rfl))); simp only [Act.put, List.setIfInBounds_toArray, List.set_cons_zero, List.set_cons_succ]
            refine wpAnyH_take (i := 8) (v := ?vvb8) rfl (by kernel_rfl) (by kernel_rfl) (by kernel_rfl) (fun _ _ _ h => h) (Or.inl ⟨by rfl, ?hyb8⟩) hHeld ?restb8; (case hyb8 => (intro w hSw; (try dsimp only at hSw); go_simp; all_goals (with_reducible rfl))); simp only [Act.put, List.setIfInBounds_toArray, List.set_cons_zero, List.set_cons_succ]
            refine wpAnyH_take (i := 9) (v := ?vvb9) rfl (by kernel_rfl) (by kernel_rfl) (by kernel_rfl) (fun _ _ _ h => h) (Or.inl ⟨by rfl, ?hyb9⟩) hHeld ?restb9; (case hyb9 => (intro w hSw; (try dsimp only at hSw); go_simp; all_goals (with_reducible rfl))); simp only [Act.put, List.setIfInBounds_toArray, List.set_cons_zero, List.set_cons_succ]
            refine wpAnyH_take (i := 10) (v := ?vvb10) rfl (by kernel_rfl) (by kernel_rfl) (by kernel_rfl) (fun _ _ _ h => h) (Or.inl ⟨by rfl, ?hyb10⟩) hHeld ?restb10; (case hyb10 => (intro w hSw; (try dsimp only at hSw); go_simp; all_goals (with_reducible rfl))); simp only [Act.put, List.setIfInBounds_toArray, List.set_cons_zero, List.set_cons_succ]
            refine wpAnyH_take (i := 11) (v := ?vvb11) rfl (by kernel_rfl) (by kernel_rfl) (by kernel_rfl) (fun _ _ _ h => h) (Or.inl ⟨by rfl, ?hyb11⟩) hHeld ?restb11; (case hyb11 => (intro w hSw; (try dsimp only at hSw); go_simp; all_goals (with_reducible rfl))); simp only [Act.put, List.setIfInBounds_toArray, List.set_cons_zero, List.set_cons_succ]
            refine wpAnyH_take (i := 12) (v := ?vvb12) rfl (by kernel_rfl) (by kernel_rfl) (by kernel_rfl) (fun _ _ _ h => h) (Or.inl ⟨by rfl, ?hyb12⟩) hHeld ?restb12; (case hyb12 => (intro w hSw; (try dsimp only at hSw); go_simp; all_goals (with_reducible rfl))); simp only [Act.put, List.setIfInBounds_toArray, List.set_cons_zero, List.set_cons_succ]
            refine wpAnyH_take (i := 13) (v := ?vvb13) rfl (by kernel_rfl) (by kernel_rfl) (by kernel_rfl) (fun _ _ _ h => h) (Or.inl ⟨by rfl, ?hyb13⟩) hHeld ?restb13; (case hyb13 => (intro w hSw; (try dsimp only at hSw); go_simp; all_goals (with_reducible rfl))); simp only [Act.put, List.setIfInBounds_toArray, List.set_cons_zero, List.set_cons_succ]
            refine wpAnyH_ready (rs := [14]) (by kernel_rfl) (by simp) ?_; refine AllReadyH.cons rfl (fun K hK => ?_) AllReadyH.nil
            go_simp
            go_at_call 34
            refine (HSl.out _).mono ?_
            rintro e w2 ⟨rfl, rfl⟩
            refine hK.out _ _ hHeld (fun hHeld => ?_)
            clear hK K
            simp only [Act.put, List.setIfInBounds_toArray, List.set_cons_zero, List.set_cons_succ]
            refine wpAnyH_ready (rs := [15]) (by kernel_rfl) (by simp) ?_; refine AllReadyH.cons rfl (fun K hK => ?_) AllReadyH.nil
            go_simp
            go_at_call 18
            refine (HC.out _ rfl).mono ?_
            rintro e w3 ⟨q1, rfl, hor, hb3⟩
            have Hor := Lib.hid hor
            have HX3 := Lib.hid (HX1.out.below hb3)
            have Hs3 := Lib.hid hb3.size
            have ca3 := Hca.out _ _ HX3.out
            have cb3 := Hcb.out _ _ HX3.out
            clear hor hb3
            have hbk := HX3.out.cells; have z0 := hbk.c0; have z1 := hbk.c1; have z2 := hbk.c2; have z3 := hbk.c3; have z4 := hbk.c4; have z5 := hbk.c5; have z6 := hbk.c6; have zf0 := hbk.f 0; have zf1 := hbk.f 1; have zf2 := hbk.f 2; have zf3 := hbk.f 3; have zf4 := hbk.f 4; clear hbk
            refine hK.out _ _ ⟨z0, z1, z2, z3, z4, z5, z6, ca3, cb3⟩ (fun hHeld => ?_)
            clear hK K hHeld Hca Hcb
            (try simp only [Act.put, List.setIfInBounds_toArray, List.set_cons_zero, List.set_cons_succ])
            refine wpAnyH_done (by kernel_rfl) ?_ _
            show wpAnyH _ _ _ _ _ _ _ _ _
            have hHeld : (fun _ : World => True) w3 := trivial
            refine wpAnyH_take (i := 16) (v := ?vvb16) rfl (by kernel_rfl) (by kernel_rfl) (by kernel_rfl) (fun _ _ _ h => h) (Or.inl ⟨by rfl, ?hyb16⟩) hHeld ?restb16; (case hyb16 => (intro w hSw; (try dsimp only at hSw); go_simp; all_goals (with_reducible rfl))); simp only [Act.put, List.setIfInBounds_toArray, List.set_cons_zero, List.set_cons_succ]
            refine wpAnyH_take (i := 17) (v := ?vvb17) rfl (by kernel_rfl) (by kernel_rfl) (by kernel_rfl) (fun _ _ _ h => h) (Or.inl ⟨by rfl, ?hyb17⟩) hHeld ?restb17; (case hyb17 => (intro w hSw; (try dsimp only at hSw); go_simp; all_goals (with_reducible rfl))); simp only [Act.put, List.setIfInBounds_toArray, List.set_cons_zero, List.set_cons_succ]
            refine wpAnyH_take (i := 18) (v := ?vvb18) rfl (by kernel_rfl) (by kernel_rfl) (by kernel_rfl) (fun _ _ _ h => h) (Or.inl ⟨by rfl, ?hyb18⟩) hHeld ?restb18; (case hyb18 => (intro w hSw; (try dsimp only at hSw); go_simp; all_goals (with_reducible rfl))); simp only [Act.put, List.setIfInBounds_toArray, List.set_cons_zero, List.set_cons_succ]
            refine wpAnyH_take (i := 19) (v := ?vvb19) rfl (by kernel_rfl) (by kernel_rfl) (by kernel_rfl) (fun _ _ _ h => h) (Or.inl ⟨by rfl, ?hyb19⟩) hHeld ?restb19; (case hyb19 => (intro w hSw; (try dsimp only at hSw); go_simp; all_goals (with_reducible rfl))); simp only [Act.put, List.setIfInBounds_toArray, List.set_cons_zero, List.set_cons_succ]
            refine wpAnyH_ready (rs := [20]) (by kernel_rfl) (by simp) ?_; refine AllReadyH.cons rfl (fun K hK => ?_) AllReadyH.nil
            go_simp
            go_wp2_with fail
            refine hK.out _ _ trivial (fun hHeld => ?_)
            clear hK K
            (try simp only [Act.put, List.setIfInBounds_toArray, List.set_cons_zero, List.set_cons_succ])
            refine wpAnyH_done (by kernel_rfl) ?_ _
            clear hHeld
            go_wp2
            go_roundw
            case rel => exact ⟨m + 1, q1, x.1, _, by omega, by go_num, HX3.out.put Hlx.out Hor.out Hs3.out HX1.out.lt⟩
            case measure => simp [intOf]; omega
          · go_wp2_with (first | (go_at_call 13; refine HN.out.mono ?_; rintro e w1 ⟨rfl, ht1, hg1⟩; have HX1 := Lib.hid (HX.out.tape hg1 ht1); clear ht1 hg1) | fail)
            go_roundw
            case rel => exact ⟨m + 1, q, d, _, by omega, by go_num, HX1.out⟩
            case measure => simp [intOf]; omega
        · have hmn' : ¬ (m : Int) < (n : Int) := by omega
          have hnz := nx_bd r' (most - 0 + 1) (by omega)
          obtain ⟨z, hz⟩ : ∃ z, nx r' (most - 0 + 1) = z := ⟨_, rfl⟩
          have HRg := Lib.hid (range_any g r' 0 most wr HX.out.tp (by omega) hm0 (by omega))
          rw [hz] at HRg hnz
          rw [Int.zero_add] at HRg
          clear hz hmn
          by_cases hz0 : 0 < z
          · have HC := Lib.hid (fun W r'' (h : LX w W g w.heap.size X n q d (.slice (some ⟨bA, 0, none⟩) n cA) (.slice (some ⟨bB, 0, none⟩) n cB) l k r'') => closeR_any q d W h.dr.at (h.ln.small hn4))
            have hlx := HX.out.ln.next 1
            generalize nextD d 1 = x at *
            have Hlx := Lib.hid hlx
            clear hlx
            go_upto_region 16 with (first
              | (go_at_call 37
                 refine HRg.out.mono ?_
                 rintro e w1 ⟨rfl, ht1, hg1⟩
                 have HX1 := Lib.hid (HX.out.tape hg1 ht1)
                 have hbk := HX1.out.cells; have p0 := hbk.c0; have p1 := hbk.c1; have p2 := hbk.c2; have p3 := hbk.c3; have p4 := hbk.c4; have p5 := hbk.c5; have p6 := hbk.c6; have pf0 := hbk.f 0; have pf1 := hbk.f 1; have pf2 := hbk.f 2; have pf3 := hbk.f 3; have pf4 := hbk.f 4; clear hbk
                 clear ht1 hg1)
              | (go_at_call 21
                 refine (HC.out _ _ HX1.out).mono ?_
                 rintro e w3 ⟨q1, rfl, hor, hb3⟩
                 have Hor := Lib.hid hor
                 have HX3 := Lib.hid (HX1.out.below hb3)
                 have Hs3 := Lib.hid hb3.size
                 have hbk := HX3.out.cells; have z0 := hbk.c0; have z1 := hbk.c1; have z2 := hbk.c2; have z3 := hbk.c3; have z4 := hbk.c4; have z5 := hbk.c5; have z6 := hbk.c6; have zf0 := hbk.f 0; have zf1 := hbk.f 1; have zf2 := hbk.f 2; have zf3 := hbk.f 3; have zf4 := hbk.f 4; clear hbk
                 clear hor hb3)
              | fail)
            have HX4 := Lib.hid (HX3.out.put Hlx.out Hor.out Hs3.out HX1.out.lt)
            clear p0 p1 p2 p3 p4 p5 p6 pf0 pf1 pf2 pf3 pf4
            clear z0 z1 z2 z3 z4 z5 z6 zf0 zf1 zf2 zf3 zf4
            generalize (((((w3.setCell ⟨X, 0, none⟩ (.int .i64 x.1.st)).setCell ⟨X, 1, none⟩ (.slice q1.a1 x.1.se.length q1.c1)).setCell ⟨X, 2, none⟩ (.slice q1.a2 x.1.sd.length q1.c2)).setCell ⟨X, 3, none⟩ (.slice q1.a3 x.1.sx.length q1.c3)).setCell ⟨X, 4, none⟩ (.slice q1.a4 x.1.rv.length q1.c4)) = w4 at *
            clear HX1 HX3 Hor Hs3 HC HRg HX
            go_wp2
            obtain ⟨wo, rfl⟩ : ∃ wo : World, wo = w4 := ⟨_, rfl⟩
            go_loopw [10] (fun i wr => ∃ (m : Nat) (q : DV) (d : Dr) (r' : List Int), m ≤ n ∧ i = .int .i64 (m : Int) ∧ LX w wr g w.heap.size X n q d (.slice (some ⟨bA, 0, none⟩) n cA) (.slice (some ⟨bB, 0, none⟩) n cB) l k r') (fun i _ => n - (intOf i).toNat)
            case atStart => exact ⟨0, _, _, _, Nat.zero_le _, rfl, HX4.out⟩
            case round =>
              obtain ⟨m, q, d, r', hm, rfl, hx⟩ := hrel
              have HX := Lib.hid hx
              clear hx HX4
              by_cases hmn : m < n
              · have hmn' : (m : Int) < (n : Int) := by omega
                have hny := nx_bd r' 5 (by omega)
                obtain ⟨y, hy⟩ : ∃ y, nx r' 5 = y := ⟨_, rfl⟩
                have HN := Lib.hid (next_any g r' 5 wr HX.out.tp (by omega))
                rw [hy] at HN hny
                clear hy
                by_cases hy0 : 0 < y
                · go_wp2_with (first | (go_at_call 13; refine HN.out.mono ?_; rintro e w1 ⟨rfl, ht1, hg1⟩; have HX1 := Lib.hid ((HX.out.tape hg1 ht1).below (Below.drew (Below.refl _ _))); clear ht1 hg1) | fail)
                  have hml : m < l.length := by have := Hll.out; omega
                  have hmk : m < k.length := by have := Hkl.out; omega
                  have Hca : Hid (∀ W r'', LX w W g w.heap.size X n q d (.slice (some ⟨bA, 0, none⟩) n cA) (.slice (some ⟨bB, 0, none⟩) n cB) l k r'' → W.cell? ⟨bA, m, none⟩ = some (.int .u64 (l[m]'hml))) := Lib.hid (fun W r'' h => h.ca hml)
                  have Hcb : Hid (∀ W r'', LX w W g w.heap.size X n q d (.slice (some ⟨bA, 0, none⟩) n cA) (.slice (some ⟨bB, 0, none⟩) n cB) l k r'' → W.cell? ⟨bB, m, none⟩ = some (.int .u64 (k[m]'hmk))) := Lib.hid (fun W r'' h => h.cb hmk)
                  generalize l[m] = sa at *
                  generalize k[m] = sb at *
                  have ca := Hca.out _ _ HX1.out
                  have cb := Hcb.out _ _ HX1.out
                  have HC := Lib.hid (fun W (hW : W = w1.drew) => revealR_any q d (m : Int) sa sb W (by rw [hW]; exact HX1.out.dr.at) (HX1.out.ln.small hn4))
                  have hlx := HX1.out.ln.reveal (m : Int) sa sb
                  generalize revealD d (m : Int) sa sb = x at *
                  have Hlx := Lib.hid hlx
                  have hbk := HX1.out.cells; have p0 := hbk.c0; have p1 := hbk.c1; have p2 := hbk.c2; have p3 := hbk.c3; have p4 := hbk.c4; have p5 := hbk.c5; have p6 := hbk.c6; have pf0 := hbk.f 0; have pf1 := hbk.f 1; have pf2 := hbk.f 2; have pf3 := hbk.f 3; have pf4 := hbk.f 4; clear hbk
                  clear hml hmk hlx
                  refine wp_region_held_two (S := (fun w' : World => w'.cell? ⟨X, 0, none⟩ = some (.int .i64 d.st) ∧ w'.cell? ⟨X, 1, none⟩ = some (.slice q.a1 d.se.length q.c1) ∧ w'.cell? ⟨X, 2, none⟩ = some (.slice q.a2 d.sd.length q.c2) ∧ w'.cell? ⟨X, 3, none⟩ = some (.slice q.a3 d.sx.length q.c3) ∧ w'.cell? ⟨X, 4, none⟩ = some (.slice q.a4 d.rv.length q.c4) ∧ w'.cell? ⟨X, 5, none⟩ = some (.slice (some ⟨bA, 0, none⟩) n cA) ∧ w'.cell? ⟨X, 6, none⟩ = some (.slice (some ⟨bB, 0, none⟩) n cB) ∧ w'.cell? ⟨bA, m, none⟩ = some (.int .u64 sa) ∧ w'.cell? ⟨bB, m, none⟩ = some (.int .u64 sb))) 14 (by kernel_rfl) (by kernel_rfl) ?_
                  have hHeld : (fun w' : World => w'.cell? ⟨X, 0, none⟩ = some (.int .i64 d.st) ∧ w'.cell? ⟨X, 1, none⟩ = some (.slice q.a1 d.se.length q.c1) ∧ w'.cell? ⟨X, 2, none⟩ = some (.slice q.a2 d.sd.length q.c2) ∧ w'.cell? ⟨X, 3, none⟩ = some (.slice q.a3 d.sx.length q.c3) ∧ w'.cell? ⟨X, 4, none⟩ = some (.slice q.a4 d.rv.length q.c4) ∧ w'.cell? ⟨X, 5, none⟩ = some (.slice (some ⟨bA, 0, none⟩) n cA) ∧ w'.cell? ⟨X, 6, none⟩ = some (.slice (some ⟨bB, 0, none⟩) n cB) ∧ w'.cell? ⟨bA, m, none⟩ = some (.int .u64 sa) ∧ w'.cell? ⟨bB, m, none⟩ = some (.int .u64 sb)) w1.drew := ⟨p0, p1, p2, p3, p4, p5, p6, ca, cb⟩
                  simp only [List.take_succ_cons, List.take_zero, List.replicate]
                  refine wpAnyH_take (i := 0) (v := ?vvc0) rfl (by kernel_rfl) (by kernel_rfl) (by kernel_rfl) (fun _ _ _ h => h) (Or.inl ⟨by rfl, ?hyc0⟩) hHeld ?restc0; (case hyc0 => (intro w hSw; (try dsimp only at hSw); go_simp; all_goals (with_reducible rfl))); simp only [Act.put, List.setIfInBounds_toArray, List.set_cons_zero, List.set_cons_succ]
                  refine wpAnyH_take (i := 1) (v := ?vvc1) rfl (by kernel_rfl) (by kernel_rfl) (by kernel_rfl) (fun _ _ _ h => h) (Or.inl ⟨by rfl, ?hyc1⟩) hHeld ?restc1; (case hyc1 => (intro w hSw; (try dsimp only at hSw); go_simp; all_goals (with_reducible rfl))); simp only [Act.put, List.setIfInBounds_toArray, List.set_cons_zero, List.set_cons_succ]
                  refine wpAnyH_take (i := 2) (v := ?vvc2) rfl (by kernel_rfl) (by kernel_rfl) (by kernel_rfl) (fun _ _ _ h => h) (Or.inl ⟨by rfl, ?hyc2⟩) hHeld ?restc2; (case hyc2 => (intro w hSw; (try dsimp only at hSw); go_simp; all_goals (with_reducible rfl))); simp only [Act.put, List.setIfInBounds_toArray, List.set_cons_zero, List.set_cons_succ]
                  refine wpAnyH_take (i := 3) (v := ?vvc3) rfl (by kernel_rfl) (by kernel_rfl) (by kernel_rfl) (fun _ _ _ h => h) (Or.inl ⟨by rfl, ?hyc3⟩) hHeld ?restc3; (case hyc3 => (intro w hSw; (try dsimp only at hSw); go_simp; all_goals (with_reducible rfl))); simp only [Act.put, List.setIfInBounds_toArray, List.set_cons_zero, List.set_cons_succ]
                  refine wpAnyH_take (i := 4) (v := ?vvc4) rfl (by kernel_rfl) (by kernel_rfl) (by kernel_rfl) (fun _ _ _ h => h) (Or.inl ⟨by rfl, ?hyc4⟩) hHeld ?restc4; (case hyc4 => (intro w hSw; (try dsimp only at hSw); go_simp; all_goals (with_reducible rfl))); simp only [Act.put, List.setIfInBounds_toArray, List.set_cons_zero, List.set_cons_succ]
                  refine wpAnyH_take (i := 5) (v := ?vvc5) rfl (by kernel_rfl) (by kernel_rfl) (by kernel_rfl) (fun _ _ _ h => h) (Or.inl ⟨by rfl, ?hyc5⟩) hHeld ?restc5; (case hyc5 => (intro w hSw; (try dsimp only at hSw); go_simp; all_goals (with_reducible rfl))); simp only [Act.put, List.setIfInBounds_toArray, List.set_cons_zero, List.set_cons_succ]
                  refine wpAnyH_take (i := 6) (v := ?vvc6) rfl (by kernel_rfl) (by kernel_rfl) (by kernel_rfl) (fun _ _ _ h => h) (Or.inl ⟨by rfl, ?hyc6⟩) hHeld ?restc6; (case hyc6 => (intro w hSw; (try dsimp only at hSw); go_simp; all_goals (with_reducible rfl))); simp only [Act.put, List.setIfInBounds_toArray, List.set_cons_zero, List.set_cons_succ]
                  refine wpAnyH_take (i := 7) (v := ?vvc7) rfl (by kernel_rfl) (by kernel_rfl) (by kernel_rfl) (fun _ _ _ h => h) (Or.inl ⟨by rfl, ?hyc7⟩) hHeld ?restc7; (case hyc7 => (intro w hSw; (try dsimp only at hSw); go_simp; all_goals (with_reducible rfl))); simp only [Act.put, List.setIfInBounds_toArray, List.set_cons_zero, List.set_cons_succ]
                  refine wpAnyH_take (i := 8) (v := ?vvc8) rfl (by kernel_rfl) (by kernel_rfl) (by kernel_rfl) (fun _ _ _ h => h) (Or.inl ⟨by rfl, ?hyc8⟩) hHeld ?restc8; (case hyc8 => (intro w hSw; (try dsimp only at hSw); go_simp; all_goals (with_reducible rfl))); simp only [Act.put, List.setIfInBounds_toArray, List.set_cons_zero, List.set_cons_succ]
                  refine wpAnyH_take (i := 9) (v := ?vvc9) rfl (by kernel_rfl) (by kernel_rfl) (by kernel_rfl) (fun _ _ _ h => h) (Or.inl ⟨by rfl, ?hyc9⟩) hHeld ?restc9; (case hyc9 => (intro w hSw; (try dsimp only at hSw); go_simp; all_goals (with_reducible rfl))); simp only [Act.put, List.setIfInBounds_toArray, List.set_cons_zero, List.set_cons_succ]
                  refine wpAnyH_take (i := 10) (v := ?vvc10) rfl (by kernel_rfl) (by kernel_rfl) (by kernel_rfl) (fun _ _ _ h => h) (Or.inl ⟨by rfl, ?hyc10⟩) hHeld ?restc10; (case hyc10 => (intro w hSw; (try dsimp only at hSw); go_simp; all_goals (with_reducible rfl))); simp only [Act.put, List.setIfInBounds_toArray, List.set_cons_zero, List.set_cons_succ]
                  refine wpAnyH_take (i := 11) (v := ?vvc11) rfl (by kernel_rfl) (by kernel_rfl) (by kernel_rfl) (fun _ _ _ h => h) (Or.inl ⟨by rfl, ?hyc11⟩) hHeld ?restc11; (case hyc11 => (intro w hSw; (try dsimp only at hSw); go_simp; all_goals (with_reducible rfl))); simp only [Act.put, List.setIfInBounds_toArray, List.set_cons_zero, List.set_cons_succ]
                  refine wpAnyH_take (i := 12) (v := ?vvc12) rfl (by kernel_rfl) (by kernel_rfl) (by kernel_rfl) (fun _ _ _ h => h) (Or.inl ⟨by rfl, ?hyc12⟩) hHeld ?restc12; (case hyc12 => (intro w hSw; (try dsimp only at hSw); go_simp; all_goals (with_reducible rfl))); simp only [Act.put, List.setIfInBounds_toArray, List.set_cons_zero, List.set_cons_succ]
                  refine wpAnyH_ready (rs := [13]) (by kernel_rfl) (by simp) ?_; refine AllReadyH.cons rfl (fun K hK => ?_) AllReadyH.nil
                  go_simp
                  go_at_call 23
                  refine (HC.out _ rfl).mono ?_
                  rintro e w3 ⟨q1, rfl, hor, hb3⟩
                  have Hor := Lib.hid hor
                  have HX3 := Lib.hid (HX1.out.below hb3)
                  have Hs3 := Lib.hid hb3.size
                  have ca3 := Hca.out _ _ HX3.out
                  have cb3 := Hcb.out _ _ HX3.out
                  clear hor hb3
                  have hbk := HX3.out.cells; have z0 := hbk.c0; have z1 := hbk.c1; have z2 := hbk.c2; have z3 := hbk.c3; have z4 := hbk.c4; have z5 := hbk.c5; have z6 := hbk.c6; have zf0 := hbk.f 0; have zf1 := hbk.f 1; have zf2 := hbk.f 2; have zf3 := hbk.f 3; have zf4 := hbk.f 4; clear hbk
                  refine hK.out _ _ ⟨z0, z1, z2, z3, z4, z5, z6, ca3, cb3⟩ (fun hHeld => ?_)
                  clear hK K hHeld Hca Hcb
                  (try simp only [Act.put, List.setIfInBounds_toArray, List.set_cons_zero, List.set_cons_succ])
                  refine wpAnyH_done (by kernel_rfl) ?_ _
                  show wpAnyH _ _ _ _ _ _ _ _ _
                  have hHeld : (fun _ : World => True) w3 := trivial
                  refine wpAnyH_take (i := 14) (v := ?vvc14) rfl (by kernel_rfl) (by kernel_rfl) (by kernel_rfl) (fun _ _ _ h => h) (Or.inl ⟨by rfl, ?hyc14⟩) hHeld ?restc14; (case hyc14 => (intro w hSw; (try dsimp only at hSw); go_simp; all_goals (with_reducible rfl))); simp only [Act.put, List.setIfInBounds_toArray, List.set_cons_zero, List.set_cons_succ]
                  refine wpAnyH_take (i := 15) (v := ?vvc15) rfl (by kernel_rfl) (by kernel_rfl) (by kernel_rfl) (fun _ _ _ h => h) (Or.inl ⟨by rfl, ?hyc15⟩) hHeld ?restc15; (case hyc15 => (intro w hSw; (try dsimp only at hSw); go_simp; all_goals (with_reducible rfl))); simp only [Act.put, List.setIfInBounds_toArray, List.set_cons_zero, List.set_cons_succ]
                  refine wpAnyH_take (i := 16) (v := ?vvc16) rfl (by kernel_rfl) (by kernel_rfl) (by kernel_rfl) (fun _ _ _ h => h) (Or.inl ⟨by rfl, ?hyc16⟩) hHeld ?restc16; (case hyc16 => (intro w hSw; (try dsimp only at hSw); go_simp; all_goals (with_reducible rfl))); simp only [Act.put, List.setIfInBounds_toArray, List.set_cons_zero, List.set_cons_succ]
                  refine wpAnyH_take (i := 17) (v := ?vvc17) rfl (by kernel_rfl) (by kernel_rfl) (by kernel_rfl) (fun _ _ _ h => h) (Or.inl ⟨by rfl, ?hyc17⟩) hHeld ?restc17; (case hyc17 => (intro w hSw; (try dsimp only at hSw); go_simp; all_goals (with_reducible rfl))); simp only [Act.put, List.setIfInBounds_toArray, List.set_cons_zero, List.set_cons_succ]
                  refine wpAnyH_ready (rs := [18]) (by kernel_rfl) (by simp) ?_; refine AllReadyH.cons rfl (fun K hK => ?_) AllReadyH.nil
                  go_simp
                  go_wp2_with fail
                  refine hK.out _ _ trivial (fun hHeld => ?_)
                  clear hK K
                  (try simp only [Act.put, List.setIfInBounds_toArray, List.set_cons_zero, List.set_cons_succ])
                  refine wpAnyH_done (by kernel_rfl) ?_ _
                  clear hHeld
                  go_wp2
                  go_roundw
                  case rel => exact ⟨m + 1, q1, x.1, _, by omega, by go_num, HX3.out.put Hlx.out Hor.out Hs3.out HX1.out.lt⟩
                  case measure => simp [intOf]; omega
                · go_wp2_with (first | (go_at_call 13; refine HN.out.mono ?_; rintro e w1 ⟨rfl, ht1, hg1⟩; have HX1 := Lib.hid (HX.out.tape hg1 ht1); clear ht1 hg1) | fail)
                  go_roundw
                  case rel => exact ⟨m + 1, q, d, _, by omega, by go_num, HX1.out⟩
                  case measure => simp [intOf]; omega
              · have hmn' : ¬ (m : Int) < (n : Int) := by omega
                by_cases hz1 : 1 < z
                · have HC := Lib.hid (finishR_any q d wr HX.out.dr.at (HX.out.ln.small hn4))
                  have hlx := HX.out.ln.next 2
                  generalize nextD d 2 = x at *
                  have Hlx := Lib.hid hlx
                  have hbk := HX.out.cells; have p0 := hbk.c0; have p1 := hbk.c1; have p2 := hbk.c2; have p3 := hbk.c3; have p4 := hbk.c4; have p5 := hbk.c5; have p6 := hbk.c6; have pf0 := hbk.f 0; have pf1 := hbk.f 1; have pf2 := hbk.f 2; have pf3 := hbk.f 3; have pf4 := hbk.f 4; clear hbk
                  clear hlx
                  go_upto_region 23 with (first
                    | (go_at_call 25
                       refine HC.out.mono ?_
                       rintro e w3 ⟨q1, rfl, hor, hb3⟩
                       have Hor := Lib.hid hor
                       have HX3 := Lib.hid (HX.out.below hb3)
                       have Hs3 := Lib.hid hb3.size
                       have hbk := HX3.out.cells; have z0 := hbk.c0; have z1 := hbk.c1; have z2 := hbk.c2; have z3 := hbk.c3; have z4 := hbk.c4; have z5 := hbk.c5; have z6 := hbk.c6; have zf0 := hbk.f 0; have zf1 := hbk.f 1; have zf2 := hbk.f 2; have zf3 := hbk.f 3; have zf4 := hbk.f 4; clear hbk
                       clear hor hb3)
                    | fail)
                  have HX4 := Lib.hid (HX3.out.put Hlx.out Hor.out Hs3.out HX.out.lt)
                  clear p0 p1 p2 p3 p4 p5 p6 pf0 pf1 pf2 pf3 pf4
                  clear z0 z1 z2 z3 z4 z5 z6 zf0 zf1 zf2 zf3 zf4
                  generalize (((((w3.setCell ⟨X, 0, none⟩ (.int .i64 x.1.st)).setCell ⟨X, 1, none⟩ (.slice q1.a1 x.1.se.length q1.c1)).setCell ⟨X, 2, none⟩ (.slice q1.a2 x.1.sd.length q1.c2)).setCell ⟨X, 3, none⟩ (.slice q1.a3 x.1.sx.length q1.c3)).setCell ⟨X, 4, none⟩ (.slice q1.a4 x.1.rv.length q1.c4)) = w4 at *
                  clear HX HX3 Hor Hs3 HC
                  have HF := Lib.hid (HX4.out.fin hn1 hn4)
                  have hbk := HX4.out.cells; have p0 := hbk.c0; have p1 := hbk.c1; have p2 := hbk.c2; have p3 := hbk.c3; have p4 := hbk.c4; have p5 := hbk.c5; have p6 := hbk.c6; have pf0 := hbk.f 0; have pf1 := hbk.f 1; have pf2 := hbk.f 2; have pf3 := hbk.f 3; have pf4 := hbk.f 4; clear hbk
                  have hbk := HX4.out.zero
                  have z0 := hbk.c0; have z1 := hbk.c1; have z2 := hbk.c2; have z3 := hbk.c3; have z4 := hbk.c4; have z5 := hbk.c5; have z6 := hbk.c6; have zf0 := hbk.f 0; have zf1 := hbk.f 1; have zf2 := hbk.f 2; have zf3 := hbk.f 3; have zf4 := hbk.f 4; have zf5 := hbk.f 5; have zf6 := hbk.f 6
                  clear hbk
                  have HZ := Lib.hid HX4.out.res
                  go_wp2
                  have hbk := HZ.out
                  unfold fill7 at hbk
                  have y0 := hbk.c0; have y1 := hbk.c1; have y2 := hbk.c2; have y3 := hbk.c3; have y4 := hbk.c4; have y5 := hbk.c5; have y6 := hbk.c6
                  clear hbk
                  refine bodyPost_ret (v := .agg #[.int .i64 x.1.st, .slice q1.a1 x.1.se.length q1.c1, .slice q1.a2 x.1.sd.length q1.c2, .slice q1.a3 x.1.sx.length q1.c3, .slice q1.a4 x.1.rv.length q1.c4, .slice (some ⟨bA, 0, none⟩) n cA, .slice (some ⟨bB, 0, none⟩) n cB]) (by simp only [results, Try.results11, go_sem, y0, y1, y2, y3, y4, y5, y6]; first | rfl | simp [go_sem, *]) rfl HF.out
                · go_upto_region 23 with fail
                  have HF := Lib.hid (HX.out.fin hn1 hn4)
                  have hbk := HX.out.cells; have p0 := hbk.c0; have p1 := hbk.c1; have p2 := hbk.c2; have p3 := hbk.c3; have p4 := hbk.c4; have p5 := hbk.c5; have p6 := hbk.c6; have pf0 := hbk.f 0; have pf1 := hbk.f 1; have pf2 := hbk.f 2; have pf3 := hbk.f 3; have pf4 := hbk.f 4; clear hbk
                  have hbk := HX.out.zero
                  have z0 := hbk.c0; have z1 := hbk.c1; have z2 := hbk.c2; have z3 := hbk.c3; have z4 := hbk.c4; have z5 := hbk.c5; have z6 := hbk.c6; have zf0 := hbk.f 0; have zf1 := hbk.f 1; have zf2 := hbk.f 2; have zf3 := hbk.f 3; have zf4 := hbk.f 4; have zf5 := hbk.f 5; have zf6 := hbk.f 6
                  clear hbk
                  have HZ := Lib.hid HX.out.res
                  go_wp2
                  have hbk := HZ.out
                  unfold fill7 at hbk
                  have y0 := hbk.c0; have y1 := hbk.c1; have y2 := hbk.c2; have y3 := hbk.c3; have y4 := hbk.c4; have y5 := hbk.c5; have y6 := hbk.c6
                  clear hbk
                  refine bodyPost_ret (v := .agg #[.int .i64 d.st, .slice q.a1 d.se.length q.c1, .slice q.a2 d.sd.length q.c2, .slice q.a3 d.sx.length q.c3, .slice q.a4 d.rv.length q.c4, .slice (some ⟨bA, 0, none⟩) n cA, .slice (some ⟨bB, 0, none⟩) n cB]) (by simp only [results, Try.results11, go_sem, y0, y1, y2, y3, y4, y5, y6]; first | rfl | simp [go_sem, *]) rfl HF.out
          · go_upto_region 23 with (first
              | (go_at_call 37
                 refine HRg.out.mono ?_
                 rintro e w1 ⟨rfl, ht1, hg1⟩
                 have HX1 := Lib.hid (HX.out.tape hg1 ht1)
                 clear ht1 hg1)
              | fail)
            have HF := Lib.hid (HX1.out.fin hn1 hn4)
            have hbk := HX1.out.cells; have p0 := hbk.c0; have p1 := hbk.c1; have p2 := hbk.c2; have p3 := hbk.c3; have p4 := hbk.c4; have p5 := hbk.c5; have p6 := hbk.c6; have pf0 := hbk.f 0; have pf1 := hbk.f 1; have pf2 := hbk.f 2; have pf3 := hbk.f 3; have pf4 := hbk.f 4; clear hbk
            have hbk := HX1.out.zero
            have z0 := hbk.c0; have z1 := hbk.c1; have z2 := hbk.c2; have z3 := hbk.c3; have z4 := hbk.c4; have z5 := hbk.c5; have z6 := hbk.c6; have zf0 := hbk.f 0; have zf1 := hbk.f 1; have zf2 := hbk.f 2; have zf3 := hbk.f 3; have zf4 := hbk.f 4; have zf5 := hbk.f 5; have zf6 := hbk.f 6
            clear hbk
            have HZ := Lib.hid HX1.out.res
            go_wp2
            have hbk := HZ.out
            unfold fill7 at hbk
            have y0 := hbk.c0; have y1 := hbk.c1; have y2 := hbk.c2; have y3 := hbk.c3; have y4 := hbk.c4; have y5 := hbk.c5; have y6 := hbk.c6
            clear hbk
            refine bodyPost_ret (v := .agg #[.int .i64 d.st, .slice q.a1 d.se.length q.c1, .slice q.a2 d.sd.length q.c2, .slice q.a3 d.sx.length q.c3, .slice q.a4 d.rv.length q.c4, .slice (some ⟨bA, 0, none⟩) n cA, .slice (some ⟨bB, 0, none⟩) n cB]) (by simp only [results, Try.results11, go_sem, y0, y1, y2, y3, y4, y5, y6]; first | rfl | simp [go_sem, *]) rfl HF.out
end Go.Proofs.Ytbkkmgofjhaaoaa
