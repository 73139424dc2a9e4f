/- Contract: right plans drawn by a tape (second.Plan). -/
import Derived.Test.YtjmbdfoegnfpnaaK4
namespace Go.Proofs.Ytjmbdfoegnfpnaa
open Go.RowKit
set_option linter.unusedVariables false
set_option linter.unusedSimpArgs false

theorem rowCell {W : World} {X i : Nat} {cs : Array Value} {t : TypeId} {v : Value} (h : W.heap[X]? = some (.cells cs t (0, 0))) (hv : cs[i]? = some v) : W.cell? ⟨X, i, none⟩ = some v := by
  have := World.news_of_block h i v (by simpa using hv)
  rwa [add_none, Nat.zero_add] at this
theorem setRow {W : World} {X i : Nat} {cs : Array Value} {t : TypeId} (v : Value) (h : W.heap[X]? = some (.cells cs t (0, 0))) {cs' : Array Value} (he : cs.setIfInBounds i v = cs') : (W.setCell ⟨X, i, none⟩ v).heap[X]? = some (.cells cs' t (0, 0)) := by
  have := heap_setCell_same W X i _ _ v h
  rw [this, ← he]

set_option maxHeartbeats 8000000 in
set_option maxRecDepth 100000 in
theorem plan_any (g : Nat) (r : List Int) (w : World) (ht : TapeAt w g r) :
    Calls Try.prog 11 #[.pointer (some ⟨g, 0, none⟩)] w (PlanPost w g) := by
  obtain ⟨i0, hi, hz0, hz1, hz2⟩ := info_parts Try.infoIn
  have Ht := Lib.hid ht
  have hlt := ht.lt
  clear ht
  go_enter Try.func11, Try.ntmps11
  go_upto_region 1 with fail
  go_wp2_with fail
  refine (next_any g r 3 _ (Ht.out.alloc _) (by omega)).mono ?_
  rintro e w1 ⟨rfl, ht1, hg1⟩
  have hle := nx_bd r 3 (by omega)
  generalize nx r 3 = le at *
  have Ht1 := Lib.hid ht1
  have Hg1 := Lib.hid (show w.grownBy w1 (some g) from (by repeat' (first | with_reducible exact World.grownBy.refl _ _ | with_reducible refine only_drewN ?_ _ | with_reducible refine only_drew ?_ | with_reducible refine only_alloc ?_ _ | with_reducible refine only_setCell ?_ (Or.inr ?_) _ | with_reducible refine only_trans ?_ (by with_reducible assumption) | with_reducible refine only_below ?_ (by with_reducible assumption) ?_ | (simp; done) | (simp; omega) | omega)))
  have hs1 := hg1.size
  simp only [World.size_alloc] at hs1
  have HR1 : Hid (w1.heap[w.heap.size]? = some (.cells #[.slice none 0 0, .slice none 0 0, .slice none 0 0, .int .i64 0, .int .i64 0] 24 (0, 0))) := Lib.hid ((hg1.block _ (by simp) (fun e => by injection e; omega)).trans (heap_alloc_new w _))
  clear ht1 hg1
  go_wp2_with fail
  refine (next_any g r.tail 5 _ (Ht1.out.alloc _) (by omega)).mono ?_
  rintro e w2 ⟨rfl, ht2, hg2⟩
  have ha := nx_bd r.tail 5 (by omega)
  generalize nx r.tail 5 = a at *
  obtain ⟨an, rfl⟩ := Int.eq_ofNat_of_zero_le ha.1
  have Hg2 := Lib.hid (show w.grownBy w2 (some g) from (by have h1 := Hg1.out; exact (by repeat' (first | with_reducible exact World.grownBy.refl _ _ | with_reducible refine only_drewN ?_ _ | with_reducible refine only_drew ?_ | with_reducible refine only_alloc ?_ _ | with_reducible refine only_setCell ?_ (Or.inr ?_) _ | with_reducible refine only_trans ?_ (by with_reducible assumption) | with_reducible refine only_below ?_ (by with_reducible assumption) ?_ | (simp; done) | (simp; omega) | omega))))
  have hs2 := hg2.size
  simp only [World.size_alloc] at hs2
  have hY : w2.heap[w1.heap.size]? = some (.cells #[.int .i64 0, .int .i64 200, .int .i64 250, .int .i64 500, .int .i64 1000] 3 (0, 0)) := (hg2.block _ (by simp) (fun e => by injection e; omega)).trans (heap_alloc_new w1 _)
  obtain ⟨ra, hra, hcra⟩ := pick5 hY 0 1000 (by simp) an (by omega)
  have HR2 : Hid (w2.heap[w.heap.size]? = some (.cells #[.slice none 0 0, .slice none 0 0, .slice none 0 0, .int .i64 0, .int .i64 0] 24 (0, 0))) := Lib.hid ((hg2.block _ (by simp; omega) (fun e => by injection e; omega)).trans ((Below.heap_alloc _ _ _ (by omega)).trans HR1.out))
  have Ht2 := Lib.hid ht2
  clear ht2 hg2 hY
  have han : (an : Int) < 5 := ha.2
  have han0 : (0 : Int) ≤ (an : Int) := ha.1
  clear ha
  go_upto_region 2 with fail
  clear hcra
  -- LOOPS
  obtain ⟨w3, hw3⟩ : ∃ w3 : World, w3 = w2.alloc (.cells #[.slice none 0 0, .slice none 0 0, .slice none 0 0, .int .i64 le, .int .i64 ra] 24) := ⟨_, rfl⟩
  rw [← hw3]
  have HG3 : Hid (Gro w w3 w3 g w2.heap.size (.cells #[.slice none 0 0, .slice none 0 0, .slice none 0 0, .int .i64 le, .int .i64 ra] 24 (0, 0)) (.slice none 0 0) [] r.tail.tail) := Lib.hid (by
    rw [hw3]
    exact Gro.start (Ht2.out.alloc _) (only_alloc Hg2.out _) (heap_alloc_new w2 _) hlt (by omega))
  have HR3 : Hid (w3.heap[w.heap.size]? = some (.cells #[.slice none 0 0, .slice none 0 0, .slice none 0 0, .int .i64 0, .int .i64 0] 24 (0, 0))) := Lib.hid (by rw [hw3]; exact (Below.heap_alloc _ _ _ (by omega)).trans HR2.out)
  clear hw3 Ht2 Hg2 HR2 Ht1 Hg1 HR1
  generalize r.tail.tail = r2 at *
  generalize w2.heap.size = X at *
  have hX := HG3.out.hX
  have hwX : w.heap.size < X := by omega
  clear hX
  go_wp2_with fail
  refine (range_any g r2 1 3 _ HG3.out.tp (by omega) (by omega) (by omega)).mono ?_
  rintro e w4 ⟨rfl, ht4, hg4⟩
  have hn0 := nx_bd r2 (3 - 1 + 1) (by omega)
  obtain ⟨N0, hN0⟩ : ∃ N0 : Nat, (N0 : Int) = 1 + nx r2 (3 - 1 + 1) := ⟨(1 + nx r2 (3 - 1 + 1)).toNat, by omega⟩
  rw [← hN0]
  have hN0b : 1 ≤ N0 ∧ N0 ≤ 3 := by omega
  clear hn0 hN0
  have HG4 := Lib.hid ((HG3.out.tape hg4 ht4).next)
  have HR4 : Hid (w4.heap[w.heap.size]? = some (.cells #[.slice none 0 0, .slice none 0 0, .slice none 0 0, .int .i64 0, .int .i64 0] 24 (0, 0))) := Lib.hid ((hg4.block _ (by have := HG3.out.hK; omega) (fun e => by injection e; omega)).trans HR3.out)
  clear ht4 hg4 HG3 HR3
  go_wp2_with fail
  go_loopw [4] (fun i wr => ∃ (nn : Nat) (ws : List Int) (v : Value) (r' : List Int), i = .int .i64 (nn : Int) ∧ nn + ws.length = N0 ∧ Gro w w4 wr g X (.cells #[v, .slice none 0 0, .slice none 0 0, .int .i64 le, .int .i64 ra] 24 (0, 0)) v ws r' ∧ ∀ x ∈ ws, 0 ≤ x ∧ x ≤ 100) (fun i _ => (intOf i).toNat)
  case atStart => exact ⟨N0, [], _, _, rfl, by simp, HG4.out, by simp⟩
  case round =>
    obtain ⟨nn, ws, v, r', rfl, hnn, hG, hws⟩ := hrel
    have HG := Lib.hid hG
    have Hws := Lib.hid hws
    clear hG hws
    by_cases h0 : 0 < nn
    · have h0' : (0 : Int) < (nn : Int) := by omega
      have HGd := Lib.hid HG.out.drew
      have c0 : wr.drew.cell? ⟨X, 0, none⟩ = some v := rowCell HGd.out.blk rfl
      go_wp2_with fail
      refine wp_region_held_tail (S := fun w' => w'.cell? ⟨X, 0, none⟩ = some v) 6 (by kernel_rfl) (by kernel_rfl) (by kernel_rfl) ?_
      have hHeld : (fun w' : World => w'.cell? ⟨X, 0, none⟩ = some v) wr.drew := c0
      simp only [List.take_succ_cons, List.take_zero, List.replicate]
      refine wpAnyH_take (i := 0) (v := ?vva0) rfl (by kernel_rfl) (by kernel_rfl) (by kernel_rfl) (fun _ _ _ h => h) (Or.inl ⟨by rfl, ?hya0⟩) hHeld ?resta0; (case hya0 => (intro w hSw; (try dsimp only at hSw); go_simp; all_goals (with_reducible rfl))); simp only [Act.put, List.setIfInBounds_toArray, List.set_cons_zero, List.set_cons_succ]
      refine wpAnyH_take (i := 1) (v := ?vva1) rfl (by kernel_rfl) (by kernel_rfl) (by kernel_rfl) (fun _ _ _ h => h) (Or.inl ⟨by rfl, ?hya1⟩) hHeld ?resta1; (case hya1 => (intro w hSw; (try dsimp only at hSw); go_simp; all_goals (with_reducible rfl))); simp only [Act.put, List.setIfInBounds_toArray, List.set_cons_zero, List.set_cons_succ]
      refine wpAnyH_take (i := 2) (v := ?vva2) rfl (by kernel_rfl) (by kernel_rfl) (by kernel_rfl) (fun _ _ _ h => h) (Or.inl ⟨by rfl, ?hya2⟩) hHeld ?resta2; (case hya2 => (intro w hSw; (try dsimp only at hSw); go_simp; all_goals (with_reducible rfl))); simp only [Act.put, List.setIfInBounds_toArray, List.set_cons_zero, List.set_cons_succ]
      refine wpAnyH_ready (rs := [3]) (by kernel_rfl) (by simp) ?_; refine AllReadyH.cons rfl (fun K hK => ?_) AllReadyH.nil
      go_simp
      go_at_call 14
      refine (next_any g r' 6 _ HGd.out.tp (by omega)).mono ?_
      rintro e w5 ⟨rfl, ht5, hg5⟩
      have hx := nx_bd r' 6 (by omega)
      have HG5 := Lib.hid (HGd.out.tape hg5 ht5)
      generalize nx r' 6 = x at *
      clear ht5 hg5
      refine hK.out _ _ (rowCell HG5.out.blk rfl) (fun hHeld => ?_)
      clear hK K
      (try simp only [Act.put, List.setIfInBounds_toArray, List.set_cons_zero, List.set_cons_succ])
      refine wpAnyH_ready (rs := [4]) (by kernel_rfl) (by simp) ?_; refine AllReadyH.cons rfl (fun K hK => ?_) AllReadyH.nil
      go_simp
      refine hK.out _ _ (rowCell (HG5.out.alloc _).blk rfl) (fun hHeld => ?_)
      clear hK K
      (try simp only [Act.put, List.setIfInBounds_toArray, List.set_cons_zero, List.set_cons_succ])
      refine wpAnyH_ready (rs := [5]) (by kernel_rfl) (by simp) ?_; refine AllReadyH.cons rfl (fun K hK => ?_) AllReadyH.nil
      refine step_append_any _ rfl (.tmp 23) (.tmp 26) 22 rfl w4.heap.size 3 i0 (.int .i64 0) 1 8 Try.underlying22 hi hz0 hz1 hz2 rfl (by omega) v ws.length (ws.map (Value.int .i64)) rfl (HG5.out.alloc _).o _ _ 1 1 [.int .i64 x] rfl ⟨rfl, fun _ => ⟨_, rfl, Nat.lt_succ_self _, fun j u hu => (by exact news_any _ _ _ j u hu)⟩⟩ (by simp [Value.oneCell']) (by simp only [maxLen]; omega) (by omega) (HG5.out.alloc _).sz ?_
      intro v6 w6 hown6 hg6 hat6
      obtain ⟨A6, e6, rfl, _, _, _⟩ := own_slice hown6
      have HG6 := Lib.hid ((HG5.out.alloc _).app hown6 hg6)
      clear hown6 hg6 hat6
      refine hK.out _ _ (rowCell HG6.out.blk rfl) (fun hHeld => ?_)
      clear hK K
      (try simp only [Act.put, List.setIfInBounds_toArray, List.set_cons_zero, List.set_cons_succ])
      refine wpAnyH_done (by kernel_rfl) ?_ _
      clear hHeld c0
      show wpList _ _ _ _ _ _
      simp only [List.drop_succ_cons, List.drop_zero]
      have c1 : w6.cell? ⟨X, 0, none⟩ = some v := rowCell HG6.out.blk rfl
      have f1 := frozen_of_row w6 X 0 _ _ HG6.out.blk
      go_wp2
      go_roundw
      case rel => exact ⟨nn - 1, ws ++ [x], _, _, by go_num, by simp; omega, HG6.out.put (setRow _ HG6.out.blk rfl), fun y hy => by
        rcases List.mem_append.1 hy with h | h
        · exact Hws.out y h
        · rw [List.mem_singleton] at h; omega⟩
      case measure => simp [intOf]; omega
    · have h0' : ¬ (0 : Int) < (nn : Int) := by omega
      obtain ⟨w7, hw7⟩ : ∃ w7 : World, w7 = wr := ⟨_, rfl⟩
      subst hw7
      have hwl : 1 ≤ ws.length ∧ ws.length ≤ 3 := by omega
      obtain ⟨A1, c1, rfl, _, _, _⟩ := own_slice HG.out.o
      have HG7 := Lib.hid HG.out.next
      have HO7 := Lib.hid HG.out.o
      have hs7 := HG.out.sz
      have hX4 := HG.out.hK
      have HR7 : Hid (w7.heap[w.heap.size]? = some (.cells #[.slice none 0 0, .slice none 0 0, .slice none 0 0, .int .i64 0, .int .i64 0] 24 (0, 0))) := Lib.hid ((HG.out.kp _ (by omega) (by omega) (by omega)).trans HR4.out)
      clear HG HR4 HG4 h0 hnn
      go_wp2_with fail
      refine (next_any g r' 3 _ HG7.out.tp (by omega)).mono ?_
      rintro e w8 ⟨rfl, ht8, hg8⟩
      have hn1 := nx_bd r' 3 (by omega)
      obtain ⟨N1, hN1⟩ : ∃ N1 : Nat, (N1 : Int) = nx r' 3 := ⟨(nx r' 3).toNat, by omega⟩
      rw [← hN1]
      have hN1b : N1 ≤ 2 := by omega
      clear hn1 hN1
      have HG8 := Lib.hid ((HG7.out.tape hg8 ht8).next)
      have HO8 := Lib.hid (ownsRow_only HO7.out hg8 (by omega))
      have HR8 : Hid (w8.heap[w.heap.size]? = some (.cells #[.slice none 0 0, .slice none 0 0, .slice none 0 0, .int .i64 0, .int .i64 0] 24 (0, 0))) := Lib.hid ((hg8.block _ (by omega) (fun e => by injection e; omega)).trans HR7.out)
      have hs8 := hg8.size
      clear ht8 hg8 HG7 HO7 HR7
      go_wp2_with fail
      go_loopw [5, 6] (fun ai i wr => ∃ (at_ : Int) (nn : Nat) (ls : List Int) (v : Value) (r' : List Int), ai = .int .i64 at_ ∧ i = .int .i64 (nn : Int) ∧ nn + ls.length = N1 ∧ (0 ≤ at_ ∧ at_ ≤ 200 * (ls.length : Int)) ∧ Gro w w8 wr g X (.cells #[.slice A1 ws.length c1, v, .slice none 0 0, .int .i64 le, .int .i64 ra] 24 (0, 0)) v ls r' ∧ (∀ x ∈ ls, 1 ≤ x ∧ x ≤ at_) ∧ ascN ls ls.length = true) (fun _ i _ => (intOf i).toNat)
      case atStart => exact ⟨0, N1, [], _, _, rfl, rfl, by simp, by simp, HG8.out, by simp, rfl⟩
      case round =>
        obtain ⟨at_, nn, ls, v, r', rfl, rfl, hnn, hat, hG, hls, hasc⟩ := hrel
        have HG := Lib.hid hG
        have Hls := Lib.hid hls
        have Hasc := Lib.hid hasc
        clear hG hls hasc
        by_cases h0 : 0 < nn
        · have h0' : (0 : Int) < (nn : Int) := by omega
          go_wp2_with fail
          refine (range_any g r' 1 200 _ HG.out.tp (by omega) (by omega) (by omega)).mono ?_
          rintro e w9 ⟨rfl, ht9, hg9⟩
          have hy := nx_bd r' (200 - 1 + 1) (by omega)
          generalize nx r' (200 - 1 + 1) = y at *
          have HG9 := Lib.hid (HG.out.tape hg9 ht9)
          clear ht9 hg9 HG
          have hwa : IntKind.i64.wrap (at_ + (1 + y)) = at_ + (1 + y) := IntWalk.i64_in _ (by omega)
          have d1 : w9.cell? ⟨X, 1, none⟩ = some v := rowCell HG9.out.blk rfl
          go_wp2_with (first
            | (at_builtin
               refine wpList_append_any _ rfl (.tmp 40) (.tmp 42) 22 rfl w8.heap.size 3 i0 (.int .i64 0) 1 8 Try.underlying22 hi hz0 hz1 hz2 rfl (by omega) v ls.length (ls.map (Value.int .i64)) rfl (HG9.out.alloc _).o _ _ 1 1 [.int .i64 (at_ + (1 + y))] rfl ⟨rfl, fun _ => ⟨_, rfl, Nat.lt_succ_self _, fun j u hu => (by exact news_any _ _ _ j u hu)⟩⟩ (by simp [Value.oneCell']) (by simp only [maxLen]; omega) (by omega) (HG9.out.alloc _).sz ?_
               intro v6 w6 hown6 hg6 hat6
               obtain ⟨A6, e6, rfl, _, _, _⟩ := own_slice hown6
               have HG6 := Lib.hid ((HG9.out.alloc _).app hown6 hg6)
               have d6 : w6.cell? ⟨X, 1, none⟩ = some v := rowCell HG6.out.blk rfl
               have f6 := frozen_of_row w6 X 1 _ _ HG6.out.blk)
            | fail)
          go_roundw
          case rel => exact ⟨at_ + (1 + y), nn - 1, ls ++ [at_ + (1 + y)], _, _, by first | rfl | go_num, by go_num, by simp; omega, by simp; omega, HG6.out.put (setRow _ HG6.out.blk rfl), fun z hz => by
            rcases List.mem_append.1 hz with h | h
            · have := Hls.out z h; omega
            · rw [List.mem_singleton] at h; omega, ascN_snoc Hasc.out (fun z hz => by have := Hls.out z hz; omega)⟩
          case measure => simp [intOf]; omega
        · have h0' : ¬ (0 : Int) < (nn : Int) := by omega
          obtain ⟨w10, hw10⟩ : ∃ w10 : World, w10 = wr := ⟨_, rfl⟩
          subst hw10
          have hll : ls.length ≤ 2 := by omega
          obtain ⟨A2, c2, rfl, _, _, _⟩ := own_slice HG.out.o
          have HG10 := Lib.hid HG.out.next
          have HO10 := Lib.hid (HG.out.old HO8.out (by omega) (by omega))
          have HQ10 := Lib.hid HG.out.o
          have hs10 := HG.out.sz
          have HR10 : Hid (w10.heap[w.heap.size]? = some (.cells #[.slice none 0 0, .slice none 0 0, .slice none 0 0, .int .i64 0, .int .i64 0] 24 (0, 0))) := Lib.hid ((HG.out.kp _ (by omega) (by omega) (by omega)).trans HR8.out)
          clear HG HR8 HG8 HO8 h0 hnn
          go_upto_region 12 with fail
          go_wp2_with fail
          go_loopw [7] (fun i wr => ∃ (nn : Nat) (ss : List Int) (v : Value) (r' : List Int), i = .int .i64 (nn : Int) ∧ ss.length = nn ∧ nn ≤ ls.length + 1 ∧ Gro w w10 wr g X (.cells #[.slice A1 ws.length c1, .slice A2 ls.length c2, v, .int .i64 le, .int .i64 ra] 24 (0, 0)) v ss r' ∧ ∀ x ∈ ss, 0 ≤ x ∧ x ≤ 1000) (fun i _ => ls.length + 1 - (intOf i).toNat)
          case atStart => exact ⟨0, [], _, _, rfl, rfl, by omega, HG10.out, by simp⟩
          case round =>
            obtain ⟨nn, ss, v, r', rfl, hnn, hnl, hG, hss⟩ := hrel
            have HG := Lib.hid hG
            have Hss := Lib.hid hss
            clear hG hss
            have d1 : wr.cell? ⟨X, 1, none⟩ = some (.slice A2 ls.length c2) := rowCell HG.out.blk rfl
            by_cases h0 : nn ≤ ls.length
            · have h0' : (nn : Int) ≤ (ls.length : Int) := by omega
              have HGd := Lib.hid HG.out.drew
              have c0 : wr.drew.cell? ⟨X, 2, none⟩ = some v := rowCell HGd.out.blk rfl
              go_wp2_with fail
              refine wp_region_held_tail (S := fun w' => w'.cell? ⟨X, 2, none⟩ = some v) 9 (by kernel_rfl) (by kernel_rfl) (by kernel_rfl) ?_
              have hHeld : (fun w' : World => w'.cell? ⟨X, 2, none⟩ = some v) wr.drew := c0
              simp only [List.take_succ_cons, List.take_zero, List.replicate]
              refine wpAnyH_take (i := 0) (v := ?vvd0) rfl (by kernel_rfl) (by kernel_rfl) (by kernel_rfl) (fun _ _ _ h => h) (Or.inl ⟨by rfl, ?hyd0⟩) hHeld ?restd0; (case hyd0 => (intro w hSw; (try dsimp only at hSw); go_simp; all_goals (with_reducible rfl))); simp only [Act.put, List.setIfInBounds_toArray, List.set_cons_zero, List.set_cons_succ]
              refine wpAnyH_take (i := 1) (v := ?vvd1) rfl (by kernel_rfl) (by kernel_rfl) (by kernel_rfl) (fun _ _ _ h => h) (Or.inl ⟨by rfl, ?hyd1⟩) hHeld ?restd1; (case hyd1 => (intro w hSw; (try dsimp only at hSw); go_simp; all_goals (with_reducible rfl))); simp only [Act.put, List.setIfInBounds_toArray, List.set_cons_zero, List.set_cons_succ]
              refine wpAnyH_take (i := 3) (v := ?vvd3) rfl (by kernel_rfl) (by kernel_rfl) (by kernel_rfl) (fun _ _ _ h => h) (Or.inl ⟨by rfl, ?hyd3⟩) hHeld ?restd3; (case hyd3 => (intro w hSw; (try dsimp only at hSw); go_simp; all_goals (with_reducible rfl))); simp only [Act.put, List.setIfInBounds_toArray, List.set_cons_zero, List.set_cons_succ]
              refine wpAnyH_ready (rs := [2, 4]) (by kernel_rfl) (by simp) ?_
              refine AllReadyH.cons rfl (fun K hK => ?_) (AllReadyH.cons rfl (fun K hK => ?_) AllReadyH.nil)
              · go_simp
                have HG4b := Lib.hid (HGd.out.alloc (.cells #[.int .i64 0, .int .i64 50, .int .i64 300, .int .i64 500, .int .i64 1000] 3))
                have hYn := heap_alloc_new wr.drew (.cells #[.int .i64 0, .int .i64 50, .int .i64 300, .int .i64 500, .int .i64 1000] 3)
                have hYs : wr.drew.heap.size < (wr.drew.alloc (.cells #[.int .i64 0, .int .i64 50, .int .i64 300, .int .i64 500, .int .i64 1000] 3)).heap.size := by simp
                refine hK.out _ _ (rowCell HG4b.out.blk rfl) (fun hHeld => ?_)
                clear hK K
                (try simp only [Act.put, List.setIfInBounds_toArray, List.set_cons_zero, List.set_cons_succ])
                refine wpAnyH_ready (rs := [4]) (by kernel_rfl) (by simp) ?_; refine AllReadyH.cons rfl (fun K hK => ?_) AllReadyH.nil
                go_simp
                go_at_call 14
                refine (next_any g r' 5 _ HG4b.out.tp (by omega)).mono ?_
                rintro e w5 ⟨rfl, ht5, hg5⟩
                have hx := nx_bd r' 5 (by omega)
                obtain ⟨an2, han2⟩ : ∃ an2 : Nat, (an2 : Int) = nx r' 5 := ⟨(nx r' 5).toNat, by omega⟩
                have han5 : an2 < 5 := by omega
                have hYw : w5.heap[wr.heap.size]? = some (.cells #[.int .i64 0, .int .i64 50, .int .i64 300, .int .i64 500, .int .i64 1000] 3 (0, 0)) := (hg5.block _ hYs (fun e => by injection e with e; have := HG.out.hK; have := HG.out.sz; have := HG.out.hg; have := HG.out.hX; simp at e; omega)).trans hYn
                have HG5 := Lib.hid (HG4b.out.tape hg5 ht5)
                rw [← han2]
                clear hx han2 ht5 hg5 hYn hYs HG4b
                refine hK.out _ _ (rowCell HG5.out.blk rfl) (fun hHeld => ?_)
                clear hK K
                (try simp only [Act.put, List.setIfInBounds_toArray, List.set_cons_zero, List.set_cons_succ])
                obtain ⟨x, hx, hcx⟩ := pick5 hYw 0 1000 (by simp) an2 han5
                have hcx' : w5.cell? ⟨wr.heap.size, an2, none⟩ = some (.int .i64 x) := hcx
                have han5' : (an2 : Int) < 5 := by omega
                have han0' : (0 : Int) ≤ (an2 : Int) := by omega
                refine wpAnyH_take (i := 5) (v := ?vvb5) rfl (by kernel_rfl) (by kernel_rfl) (by kernel_rfl) (fun _ _ _ h => h) (Or.inl ⟨by rfl, ?hyb5⟩) hHeld ?restb5; (case hyb5 => (intro w hSw; (try dsimp only at hSw); go_simp; all_goals (with_reducible rfl))); simp only [Act.put, List.setIfInBounds_toArray, List.set_cons_zero, List.set_cons_succ]
                refine wpAnyH_ready (rs := [6]) (by kernel_rfl) (by simp) ?_; refine AllReadyH.cons rfl (fun K hK => ?_) AllReadyH.nil
                go_simp
                refine hK.out _ _ (rowCell HG5.out.blk rfl) (fun hHeld => ?_)
                clear hK K
                (try simp only [Act.put, List.setIfInBounds_toArray, List.set_cons_zero, List.set_cons_succ])
                refine wpAnyH_ready (rs := [7]) (by kernel_rfl) (by simp) ?_; refine AllReadyH.cons rfl (fun K hK => ?_) AllReadyH.nil
                go_simp
                refine hK.out _ _ (rowCell (HG5.out.alloc _).blk rfl) (fun hHeld => ?_)
                clear hK K
                (try simp only [Act.put, List.setIfInBounds_toArray, List.set_cons_zero, List.set_cons_succ])
                refine wpAnyH_ready (rs := [8]) (by kernel_rfl) (by simp) ?_; refine AllReadyH.cons rfl (fun K hK => ?_) AllReadyH.nil
                refine step_append_any _ rfl (.tmp 53) (.tmp 59) 22 rfl w10.heap.size 3 i0 (.int .i64 0) 1 8 Try.underlying22 hi hz0 hz1 hz2 rfl (by omega) v ss.length (ss.map (Value.int .i64)) rfl (HG5.out.alloc _).o _ _ 1 1 [.int .i64 x] rfl ⟨rfl, fun _ => ⟨_, rfl, Nat.lt_succ_self _, fun j u hu => (by exact news_any _ _ _ j u hu)⟩⟩ (by simp [Value.oneCell']) (by simp only [maxLen]; omega) (by omega) (HG5.out.alloc _).sz ?_
                intro v6 w6 hown6 hg6 hat6
                obtain ⟨A6, e6, rfl, _, _, _⟩ := own_slice hown6
                have HG6 := Lib.hid ((HG5.out.alloc _).app hown6 hg6)
                clear hown6 hg6 hat6
                refine hK.out _ _ (rowCell HG6.out.blk rfl) (fun hHeld => ?_)
                clear hK K
                (try simp only [Act.put, List.setIfInBounds_toArray, List.set_cons_zero, List.set_cons_succ])
                refine wpAnyH_done (by kernel_rfl) ?_ _
                clear hHeld c0 hcx hcx'
                show wpList _ _ _ _ _ _
                simp only [List.drop_succ_cons, List.drop_zero]
                have c6 : w6.cell? ⟨X, 2, none⟩ = some v := rowCell HG6.out.blk rfl
                have f6 := frozen_of_row w6 X 2 _ _ HG6.out.blk
                go_wp2
                go_roundw
                case rel => exact ⟨nn + 1, ss ++ [x], _, _, by go_num, by simp; omega, by omega, HG6.out.put (setRow _ HG6.out.blk (by rw [hnn]; rfl)), fun y hy => by
                  rcases List.mem_append.1 hy with h | h
                  · exact Hss.out y h
                  · rw [List.mem_singleton] at h; omega⟩
                case measure => simp [intOf]; omega
              · go_simp
                go_at_call 14
                refine (next_any g r' 5 _ HGd.out.tp (by omega)).mono ?_
                rintro e w4b ⟨rfl, ht5, hg5⟩
                have hx := nx_bd r' 5 (by omega)
                obtain ⟨an2, han2⟩ : ∃ an2 : Nat, (an2 : Int) = nx r' 5 := ⟨(nx r' 5).toNat, by omega⟩
                have han5 : an2 < 5 := by omega
                have HG4b := Lib.hid (HGd.out.tape hg5 ht5)
                rw [← han2]
                clear hx han2 ht5 hg5
                refine hK.out _ _ (rowCell HG4b.out.blk rfl) (fun hHeld => ?_)
                clear hK K
                (try simp only [Act.put, List.setIfInBounds_toArray, List.set_cons_zero, List.set_cons_succ])
                refine wpAnyH_ready (rs := [2]) (by kernel_rfl) (by simp) ?_; refine AllReadyH.cons rfl (fun K hK => ?_) AllReadyH.nil
                go_simp
                obtain ⟨w5, hw5⟩ : ∃ w5 : World, w5 = w4b.alloc (.cells #[.int .i64 0, .int .i64 50, .int .i64 300, .int .i64 500, .int .i64 1000] 3) := ⟨_, rfl⟩
                rw [← hw5]
                have HG5 := Lib.hid (HG4b.out.alloc (.cells #[.int .i64 0, .int .i64 50, .int .i64 300, .int .i64 500, .int .i64 1000] 3))
                rw [← hw5] at HG5
                have hYw : w5.heap[w4b.heap.size]? = some (.cells #[.int .i64 0, .int .i64 50, .int .i64 300, .int .i64 500, .int .i64 1000] 3 (0, 0)) := by rw [hw5]; exact heap_alloc_new w4b _
                clear hw5 HG4b
                refine hK.out _ _ (rowCell HG5.out.blk rfl) (fun hHeld => ?_)
                clear hK K
                (try simp only [Act.put, List.setIfInBounds_toArray, List.set_cons_zero, List.set_cons_succ])
                obtain ⟨x, hx, hcx⟩ := pick5 hYw 0 1000 (by simp) an2 han5
                have hcx' : w5.cell? ⟨w4b.heap.size, an2, none⟩ = some (.int .i64 x) := hcx
                have han5' : (an2 : Int) < 5 := by omega
                have han0' : (0 : Int) ≤ (an2 : Int) := by omega
                refine wpAnyH_take (i := 5) (v := ?vvc5) rfl (by kernel_rfl) (by kernel_rfl) (by kernel_rfl) (fun _ _ _ h => h) (Or.inl ⟨by rfl, ?hyc5⟩) hHeld ?restc5; (case hyc5 => (intro w hSw; (try dsimp only at hSw); go_simp; all_goals (with_reducible rfl))); simp only [Act.put, List.setIfInBounds_toArray, List.set_cons_zero, List.set_cons_succ]
                refine wpAnyH_ready (rs := [6]) (by kernel_rfl) (by simp) ?_; refine AllReadyH.cons rfl (fun K hK => ?_) AllReadyH.nil
                go_simp
                refine hK.out _ _ (rowCell HG5.out.blk rfl) (fun hHeld => ?_)
                clear hK K
                (try simp only [Act.put, List.setIfInBounds_toArray, List.set_cons_zero, List.set_cons_succ])
                refine wpAnyH_ready (rs := [7]) (by kernel_rfl) (by simp) ?_; refine AllReadyH.cons rfl (fun K hK => ?_) AllReadyH.nil
                go_simp
                refine hK.out _ _ (rowCell (HG5.out.alloc _).blk rfl) (fun hHeld => ?_)
                clear hK K
                (try simp only [Act.put, List.setIfInBounds_toArray, List.set_cons_zero, List.set_cons_succ])
                refine wpAnyH_ready (rs := [8]) (by kernel_rfl) (by simp) ?_; refine AllReadyH.cons rfl (fun K hK => ?_) AllReadyH.nil
                refine step_append_any _ rfl (.tmp 53) (.tmp 59) 22 rfl w10.heap.size 3 i0 (.int .i64 0) 1 8 Try.underlying22 hi hz0 hz1 hz2 rfl (by omega) v ss.length (ss.map (Value.int .i64)) rfl (HG5.out.alloc _).o _ _ 1 1 [.int .i64 x] rfl ⟨rfl, fun _ => ⟨_, rfl, Nat.lt_succ_self _, fun j u hu => (by exact news_any _ _ _ j u hu)⟩⟩ (by simp [Value.oneCell']) (by simp only [maxLen]; omega) (by omega) (HG5.out.alloc _).sz ?_
                intro v6 w6 hown6 hg6 hat6
                obtain ⟨A6, e6, rfl, _, _, _⟩ := own_slice hown6
                have HG6 := Lib.hid ((HG5.out.alloc _).app hown6 hg6)
                clear hown6 hg6 hat6
                refine hK.out _ _ (rowCell HG6.out.blk rfl) (fun hHeld => ?_)
                clear hK K
                (try simp only [Act.put, List.setIfInBounds_toArray, List.set_cons_zero, List.set_cons_succ])
                refine wpAnyH_done (by kernel_rfl) ?_ _
                clear hHeld c0 hcx hcx'
                show wpList _ _ _ _ _ _
                simp only [List.drop_succ_cons, List.drop_zero]
                have c6 : w6.cell? ⟨X, 2, none⟩ = some v := rowCell HG6.out.blk rfl
                have f6 := frozen_of_row w6 X 2 _ _ HG6.out.blk
                go_wp2
                go_roundw
                case rel => exact ⟨nn + 1, ss ++ [x], _, _, by go_num, by simp; omega, by omega, HG6.out.put (setRow _ HG6.out.blk (by rw [hnn]; rfl)), fun y hy => by
                  rcases List.mem_append.1 hy with h | h
                  · exact Hss.out y h
                  · rw [List.mem_singleton] at h; omega⟩
                case measure => simp [intOf]; omega
            · have h0' : ¬ (nn : Int) ≤ (ls.length : Int) := by omega
              have hn1 : ss.length = ls.length + 1 := by omega
              subst hnn
              obtain ⟨A3, c3, rfl, _, _, _⟩ := own_slice HG.out.o
              have x0 : wr.cell? ⟨X, 0, none⟩ = some (.slice A1 ws.length c1) := rowCell HG.out.blk rfl
              have x2 : wr.cell? ⟨X, 2, none⟩ = some (.slice A3 ss.length c3) := rowCell HG.out.blk rfl
              have x3 : wr.cell? ⟨X, 3, none⟩ = some (.int .i64 le) := rowCell HG.out.blk rfl
              have x4 : wr.cell? ⟨X, 4, none⟩ = some (.int .i64 ra) := rowCell HG.out.blk rfl
              have HRw : Hid (wr.heap[w.heap.size]? = some (.cells #[.slice none 0 0, .slice none 0 0, .slice none 0 0, .int .i64 0, .int .i64 0] 24 (0, 0))) := Lib.hid ((HG.out.kp _ (by omega) (by omega) (by omega)).trans HR10.out)
              have R0 := rowCell HRw.out (i := 0) rfl
              have R1 := rowCell HRw.out (i := 1) rfl
              have R2 := rowCell HRw.out (i := 2) rfl
              have R3 := rowCell HRw.out (i := 3) rfl
              have R4 := rowCell HRw.out (i := 4) rfl
              have F0 := frozen_of_row wr w.heap.size 0 _ _ HRw.out
              have F1 := frozen_of_row wr w.heap.size 1 _ _ HRw.out
              have F2 := frozen_of_row wr w.heap.size 2 _ _ HRw.out
              have F3 := frozen_of_row wr w.heap.size 3 _ _ HRw.out
              have F4 := frozen_of_row wr w.heap.size 4 _ _ HRw.out
              go_upto_region 16 with fail
              have hn1h := Lib.hid hn1
              clear hn1
              go_wp2
              obtain ⟨wz, hwz⟩ : ∃ wz : World, wz = (((((wr.setCell ⟨w.heap.size, 0, none⟩ (.slice A1 ws.length c1)).setCell ⟨w.heap.size, 1, none⟩ (.slice A2 ls.length c2)).setCell ⟨w.heap.size, 2, none⟩ (.slice A3 ss.length c3)).setCell ⟨w.heap.size, 3, none⟩ (.int .i64 le)).setCell ⟨w.heap.size, 4, none⟩ (.int .i64 ra)) := ⟨_, rfl⟩
              rw [← hwz]
              have hz5 : wz.heap[w.heap.size]? = some (.cells #[.slice A1 ws.length c1, .slice A2 ls.length c2, .slice A3 ss.length c3, .int .i64 le, .int .i64 ra] 24 (0, 0)) := by rw [hwz]; exact box5 HRw.out
              have hgz : wr.grownBy wz (some w.heap.size) := by rw [hwz]; exact box5_only
              clear hwz x0 x2 x3 x4 R0 R1 R2 R3 R4 F0 F1 F2 F3 F4 d1
              have z0 := rowCell hz5 (i := 0) rfl
              have z1 := rowCell hz5 (i := 1) rfl
              have z2 := rowCell hz5 (i := 2) rfl
              have z3 := rowCell hz5 (i := 3) rfl
              have z4 := rowCell hz5 (i := 4) rfl
              refine bodyPost_ret (v := .agg #[.slice A1 ws.length c1, .slice A2 ls.length c2, .slice A3 ss.length c3, .int .i64 le, .int .i64 ra]) (by simp [results, Try.results11, go_sem, z0, z1, z2, z3, z4]) rfl ?_
              have hb4 : w.heap.size < w4.heap.size := by omega
              have hb8 : w.heap.size < w8.heap.size := by omega
              have hb10 : w.heap.size < w10.heap.size := by omega
              refine ⟨⟨A1, c1, A2, c2, A3, c3⟩, ⟨ws, ls, ss, le, ra⟩, r', rfl, ⟨?_, ?_, ?_⟩, HG.out.tp.grown hgz (by rintro _ ⟨⟩; exact hlt), only_grown HG.out.gr hgz (by rintro _ ⟨⟩; exact Nat.le_refl _), ?_, by show le ≤ 2; omega⟩
              · exact own_rebase (ownsRow_only (HG.out.old HO10.out (by omega) (by omega)) hgz hb4) (by omega)
              · exact own_rebase (ownsRow_only (HG.out.old HQ10.out (by omega) (by omega)) hgz hb8) (by omega)
              · exact own_rebase (ownsRow_only HG.out.o hgz hb10) (by omega)
              · exact checkP_of ⟨hwl.1, by show ws.length ≤ 6; omega⟩ Hws.out (by show ls.length ≤ 5; omega) (fun x hx => by have := Hls.out x hx; omega) hn1h.out Hss.out ⟨hle.1, by show le ≤ 60; omega⟩ hra Hasc.out
end Go.Proofs.Ytjmbdfoegnfpnaa
