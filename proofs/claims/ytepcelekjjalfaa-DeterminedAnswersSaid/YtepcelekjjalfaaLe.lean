/- The walk of DeterminedLess. -/
import Derived.Test.YtepcelekjjalfaaWi
import Derived.Deep.RegionHeld3
namespace Go.Proofs.Ytepcelekjjalfaa
open Go.RowKit
set_option linter.unusedVariables false

theorem ownsRow_only {w w' : World} {base : Nat} {e : TypeId} {size : Nat} {v : Value} {n : Nat} {xs : List Value} {g : Nat} (h : w.ownsRow base e size v n xs) (hg : w.grownBy w' (some g)) (hb : g < base) : w'.ownsRow base e size v n xs := by
  obtain ⟨h1, h2⟩ := h
  refine ⟨h1, ?_⟩
  rcases h2 with h2 | ⟨x, cap, cur, hv, hx, hh, r⟩
  · exact Or.inl h2
  · have hlt : x < w.heap.size := by
      rcases Nat.lt_or_ge x w.heap.size with h | h
      · exact h
      · rw [Array.getElem?_eq_none h] at hh; cases hh
    exact Or.inr ⟨x, cap, cur, hv, hx, (hg.block x hlt (by intro e; injection e; omega)).trans hh, r⟩
theorem TapeAt.grown {w w' : World} {g : Nat} {r : List Int} {row : Option Nat} (h : TapeAt w g r) (hg : w.grownBy w' row) (hr : ∀ k, row = some k → g < k) : TapeAt w' g r :=
  h.keep fun b hb => hg.block b (Nat.lt_of_le_of_lt hb h.lt) (fun e => by have := hr b e.symm; omega)

/-- Several facts, taken off the tape one after the other, and the tape behind them. -/
def tf : Nat → List Int → List Fct × List Int
  | 0, r => ([], r)
  | j + 1, r => ((tf j r).1 ++ [factOf (tf j r).2], fRest (tf j r).2)
theorem tf_props (j : Nat) (r : List Int) (wd : Int) (h1 : 0 ≤ wd) (h2 : wd ≤ 200) : (tf j r).1.length = j ∧ errS (tf j r).1 wd = 0 ∧ 0 ≤ sumD (tf j r).1 ∧ sumD (tf j r).1 ≤ 119 * j := by
  induction j with
  | zero => simp [tf, errS, sumD]
  | succ j ih =>
    obtain ⟨a, b, c, d⟩ := ih
    have hf := fact_bd (tf j r).2
    refine ⟨by simp [tf, a], ?_, ?_, ?_⟩
    · rw [tf, errS_app _ _ _ b]; exact fact_right _ _ h1 h2
    · rw [tf, sumD_app]
      have : (factOf (tf j r).2).d = fD (tf j r).2 := rfl
      omega
    · rw [tf, sumD_app]
      have : (factOf (tf j r).2).d = fD (tf j r).2 := rfl
      omega
theorem sumE_tf (j : Nat) (r : List Int) (wd : Int) (hj : j ≤ 5) (h1 : 0 ≤ wd) (h2 : wd ≤ 200) : sumE (tf j r).1 wd = 0 := by
  obtain ⟨a, b, c, d⟩ := tf_props j r wd h1 h2
  unfold sumE
  rw [a, if_neg (by omega), b, if_neg (by simp), if_neg (by omega)]

theorem lay1 (x l : Int × Int) : (lay x l).1 = min x.1 l.2 := by
  unfold lay
  split
  · simp; omega
  · omega
theorem line_less (d u u' s k a b wd : Int) (h : checkF d u s k a b wd = 0) (h0 : 0 ≤ u') (hu : u' ≤ u) : checkF d u' s k a b wd = 0 ∧ (lineV d u' s k a b wd).1 ≤ (lineV d u s k a b wd).1 := by
  obtain ⟨h1, h2, h3, h4, h5, h6⟩ := (checkF_zero _ _ _ _ _ _ _).1 h
  have h' : checkF d u' s k a b wd = 0 := (checkF_zero _ _ _ _ _ _ _).2 ⟨h1, by omega, h3, h4, h5, h6⟩
  refine ⟨h', ?_⟩
  unfold lineV limL
  rw [if_pos h, if_pos h']
  by_cases hs : secR s k = 0
  · rw [if_pos hs, if_pos hs]
    simp only [List.foldl, lay1]
    omega
  · rw [if_neg hs, if_neg hs]
    simp only [List.foldl, lay1]
    omega

theorem Try.infoFact : (Try.prog.info? 28).map (fun i => (i.zero, i.size, i.bytes)) = some (some (.agg #[.int .i64 0, .int .i64 0, .int .i64 0, .int .i64 0, .int .i64 0, .int .i64 0]), 6, 48) := by kernel_rfl

set_option maxHeartbeats 2000000 in
theorem less_any (A : Option Addr) (n c : Nat) (zs : List Int) (wd0 : Int) (w : World) (hn : zs.length = n) (hc : n ≤ c) (hm : c ≤ maxLen) (hw : ∀ z ∈ zs, (Lit.int .i64 z).wf = true) (hA : Lies w A n (zs.map (.int .i64))) (h0 : 0 ≤ wd0) (h1 : wd0 ≤ 255) :
    Calls Try.prog 6 #[.slice A n c, .int .u8 wd0] w fun e w' => e = .returned (.bool true) ∧ Below w.heap.size w w' := by
  obtain ⟨i0, hi, hz0, hz1, hz2⟩ := info_parts Try.infoFact
  have Hnew := Lib.hid (new_any A n c zs w hn hc hm hw hA)
  clear hn hc hm hw hA
  generalize zs.take 400 = r at *
  have hw0 : 0 ≤ wd0 % 201 := by omega
  have hw2 : wd0 % 201 ≤ 200 := by omega
  have hchk := fact_right r (wd0 % 201) hw0 hw2
  have hfb := fact_bd r
  have Hf : Hid (∀ g W, TapeAt W g r → Calls Try.prog 10 #[.pointer (some ⟨g, 0, none⟩)] W (TakePost W g (fRest r) (.agg #[.int .i64 (factOf r).d, .int .i64 (factOf r).u, .int .i64 (factOf r).s, .int .i64 (factOf r).k, .int .i64 (factOf r).a, .int .i64 (factOf r).b]))) := fun g W h => fact_any g r W h
  unfold chkOf at hchk
  have hu1 : 0 ≤ (factOf r).u := hfb.2.2.2.2.2.2.1
  have hu2 : (factOf r).u ≤ 119 := by have := hfb.2.2.2.2.2.2.2; have : (factOf r).u = fU r := rfl; omega
  clear hfb
  generalize (factOf r).d = d at *
  generalize (factOf r).u = u at *
  generalize (factOf r).s = s at *
  generalize (factOf r).a = a at *
  generalize (factOf r).b = b at *
  generalize (factOf r).k = k at *
  generalize fRest r = r1 at *
  have hx := nx_bd r1 (u + 1) (by omega)
  have Hn1 : Hid (∀ g W, TapeAt W g r1 → Calls Try.prog 11 #[.pointer (some ⟨g, 0, none⟩), .int .i64 (u + 1)] W (NextPost W g r1 (nx r1 (u + 1)))) := fun g W h => next_any g r1 (u + 1) W h (by omega)
  generalize nx r1 (u + 1) = x at *
  have hless := line_less d u x s k a b (wd0 % 201) hchk hx.1 (by omega)
  have L1 := Lib.hid (line_right _ _ _ _ _ _ _ hchk)
  have L2 := Lib.hid (line_right _ _ _ _ _ _ _ hless.1)
  replace hless := hless.2
  clear hchk
  generalize lineV d u s k a b (wd0 % 201) = qa at *
  generalize lineV d x s k a b (wd0 % 201) = qb at *
  have hy := nx_bd r1.tail 6 (by omega)
  have Hn2 : Hid (∀ g W, TapeAt W g r1.tail → Calls Try.prog 11 #[.pointer (some ⟨g, 0, none⟩), .int .i64 6] W (NextPost W g r1.tail (nx r1.tail 6))) := fun g W h => next_any g r1.tail 6 W h (by omega)
  obtain ⟨m, hm⟩ := Int.eq_ofNat_of_zero_le hy.1
  rw [hm] at Hn2 hy
  clear hm
  have hm5 : m ≤ 5 := by omega
  generalize r1.tail.tail = r2 at *
  go_enter Try.func6, Try.ntmps6
  go_wp2_with fail
  refine Hnew.out.mono ?_
  rintro e w1 ⟨g, rfl, hg, ht, hb1⟩
  have hgl := ht.lt
  go_wp2_with fail
  refine (Hf.out g _ ht).mono ?_
  rintro e w2 ⟨rfl, ht2, hg2⟩
  have hs2 := hg2.size
  have n0 : ¬ w2.heap.size = g := by omega
  have n1 : ¬ w2.heap.size + 1 = g := by omega
  go_wp2_with fail
  refine (Hn1.out g _ (by repeat' (first | with_reducible assumption | with_reducible refine TapeAt.alloc ?_ _ | with_reducible refine TapeAt.drewN ?_ _ | with_reducible refine TapeAt.drew ?_ | with_reducible refine TapeAt.setCell ?_ ?_ _ | with_reducible refine TapeAt.below ?_ (by with_reducible assumption) ?_ | (simp; omega) | omega))).mono ?_
  rintro e w3 ⟨rfl, ht3, hg3⟩
  obtain ⟨hc3, hf3⟩ := tcell hg3
  have hl3 : w2.heap.size + 1 < w3.heap.size := by have := hg3.size; simp at this; omega
  have hl3' : w2.heap.size < w3.heap.size := by omega
  go_wp2_with fail
  refine (L1.out _).mono ?_
  rintro e w4 ⟨rfl, hb4⟩
  obtain ⟨hc4, hf4⟩ := bcell hb4
  have hs4 : w3.heap.size ≤ w4.heap.size := by have := hb4.size; simpa using this
  go_wp2_with fail
  refine (L2.out _).mono ?_
  rintro e w5 ⟨rfl, hb5⟩
  have hs5 : w4.heap.size ≤ w5.heap.size := by have := hb5.size; simpa using this
  have ht5 : TapeAt w5 g r1.tail := (by repeat' (first | with_reducible assumption | with_reducible refine TapeAt.alloc ?_ _ | with_reducible refine TapeAt.drewN ?_ _ | with_reducible refine TapeAt.drew ?_ | with_reducible refine TapeAt.setCell ?_ ?_ _ | with_reducible refine TapeAt.below ?_ (by with_reducible assumption) ?_ | (simp; omega) | omega))
  have hB5 : Below w.heap.size w w5 := (by repeat' (first | with_reducible exact Below.refl _ _ | with_reducible assumption | with_reducible refine below_drewN ?_ _ | with_reducible refine Below.drew ?_ | with_reducible refine Below.alloc ?_ ?_ _ | with_reducible refine Below.setCell ?_ ?_ _ | with_reducible refine Below.trans ?_ (Below.mono (by with_reducible assumption) ?_) | with_reducible refine below_only ?_ (by with_reducible assumption) ?_ ?_ | (simp; done) | (simp; omega) | omega))
  clear hc3 hf3 hc4 hf4
  go_wp2_with fail
  refine (Hn2.out g _ ht5).mono ?_
  rintro e w6 ⟨rfl, ht6, hg6⟩
  have hB6 : Below w.heap.size w w6 := (by repeat' (first | with_reducible exact Below.refl _ _ | with_reducible assumption | with_reducible refine below_drewN ?_ _ | with_reducible refine Below.drew ?_ | with_reducible refine Below.alloc ?_ ?_ _ | with_reducible refine Below.setCell ?_ ?_ _ | with_reducible refine Below.trans ?_ (Below.mono (by with_reducible assumption) ?_) | with_reducible refine below_only ?_ (by with_reducible assumption) ?_ ?_ | (simp; done) | (simp; omega) | omega))
  clear ht ht2 ht3 ht5 hg2 hg3 hb4 hb5 hB5 hg6 hb1
  go_wp2_with fail
  have hgw6 : g < w6.heap.size := ht6.lt
  go_loopw [15, 16, 17, 18] (fun v x y i wr => ∃ j : Nat, j ≤ m ∧ i = .int .i64 ((m : Int) - (j : Int)) ∧ x = .int .i64 (sumD (tf j r1.tail.tail).1) ∧ y = .int .i64 (sumN (tf j r1.tail.tail).1 (wd0 % 201)) ∧ wr.ownsRow (g + 1) 28 6 v j (factCells (tf j r1.tail.tail).1) ∧ TapeAt wr g (tf j r1.tail.tail).2 ∧ Below w.heap.size w wr) (fun _ _ _ i _ => (intOf i).toNat)
  case atStart => exact ⟨0, Nat.zero_le _, by go_num, rfl, rfl, World.ownsRow_nil _ _ _ _, ht6, hB6⟩
  case round =>
    obtain ⟨j, hj, rfl, rfl, rfl, hown, htr, hbr⟩ := hrel
    clear ht6 hB6
    have hgr := htr.lt
    have hsr := hbr.size
    obtain ⟨t1, t2, t3, t4⟩ := tf_props j r1.tail.tail (wd0 % 201) hw0 hw2
    have t5 := sums_bd _ _ t2
    rw [t1] at t5
    generalize hL : (tf j r1.tail.tail).1 = L at *
    have HL := Lib.hid hL
    clear hL
    generalize hr' : (tf j r1.tail.tail).2 = r' at *
    have Hr' := Lib.hid hr'
    clear hr'
    have Htf : Hid (tf (j + 1) r1.tail.tail = (L ++ [factOf r'], fRest r')) := by
      show tf (j + 1) r1.tail.tail = _
      rw [tf, HL.out, Hr'.out]
    by_cases hjm : j < m
    · have hchk := fact_right r' (wd0 % 201) hw0 hw2
      have hbf := chkOf_bd _ _ hchk
      have Hf' : Hid (∀ W, TapeAt W g r' → Calls Try.prog 10 #[.pointer (some ⟨g, 0, none⟩)] W (TakePost W g (fRest r') (.agg #[.int .i64 (factOf r').d, .int .i64 (factOf r').u, .int .i64 (factOf r').s, .int .i64 (factOf r').k, .int .i64 (factOf r').a, .int .i64 (factOf r').b]))) := fun W h => fact_any g r' W h
      have L3 := Lib.hid (line_right _ _ _ _ _ _ _ hchk)
      have Hq : Hid (lineV (factOf r').d (factOf r').u (factOf r').s (factOf r').k (factOf r').a (factOf r').b (wd0 % 201) = lineOf (factOf r') (wd0 % 201)) := rfl
      rw [Hq.out] at L3
      clear Hq hchk
      generalize hff : factOf r' = f at *
      clear hff
      generalize hqq : lineOf f (wd0 % 201) = q at *
      have Hqq := Lib.hid hqq
      clear hqq
      generalize fRest r' = r'' at *
      have HD := Lib.hid (sumD_app L f)
      have HN := Lib.hid (sumN_app L f (wd0 % 201))
      rw [Hqq.out] at HN
      have Hcells : Hid (factCells (L ++ [f]) = factCells L ++ [.int .i64 f.d, .int .i64 f.u, .int .i64 f.s, .int .i64 f.k, .int .i64 f.a, .int .i64 f.b]) := by
        show factCells (L ++ [f]) = _
        simp [factCells, Fct.cells]
      obtain ⟨b1, b2, b3, b4⟩ : 0 ≤ sumD L ∧ sumD L ≤ 5368709120 ∧ 0 ≤ sumN L (wd0 % 201) ∧ sumN L (wd0 % 201) ≤ 5368709120 := by omega
      clear t1 t2 t3 t4 t5
      generalize sumD L = D at *
      generalize sumN L (wd0 % 201) = N at *
      have Hown := Lib.hid hown
      clear hown
      go_wp2_with fail
      refine (Hf'.out _ htr).mono ?_
      rintro e w7 ⟨rfl, ht7, hg7⟩
      have hs7 := hg7.size
      have hown7 := ownsRow_only Hown.out hg7 (by omega)
      have ag := own_fresh hown7
      have ab := own_base hown7
      have Hown7 := Lib.hid hown7
      clear hown7
      have n7 : ¬ w7.heap.size = g := by omega
      go_wp2_with fail
      refine (L3.out _).mono ?_
      rintro e w8 ⟨rfl, hb8⟩
      obtain ⟨hc8, hf8⟩ := bcell hb8
      have hs8 : w7.heap.size + 1 ≤ w8.heap.size := by have := hb8.size; simpa using this
      go_wp2_with fail
      have c0 : w8.cell? ⟨w7.heap.size, 0, none⟩ = some (.int .i64 f.d) := by rw [hc8 _ _ (by simp)]; go_simp
      have c1 : w8.cell? ⟨w7.heap.size, 1, none⟩ = some (.int .i64 f.u) := by rw [hc8 _ _ (by simp)]; go_simp
      have c2 : w8.cell? ⟨w7.heap.size, 2, none⟩ = some (.int .i64 f.s) := by rw [hc8 _ _ (by simp)]; go_simp
      have c3 : w8.cell? ⟨w7.heap.size, 3, none⟩ = some (.int .i64 f.k) := by rw [hc8 _ _ (by simp)]; go_simp
      have c4 : w8.cell? ⟨w7.heap.size, 4, none⟩ = some (.int .i64 f.a) := by rw [hc8 _ _ (by simp)]; go_simp
      have c5 : w8.cell? ⟨w7.heap.size, 5, none⟩ = some (.int .i64 f.b) := by rw [hc8 _ _ (by simp)]; go_simp
      have e1 : IntKind.i64.wrap (D + f.d) = D + f.d := IntWalk.i64_in _ (by omega)
      have e2 : IntKind.i64.wrap (N + q.1) = N + q.1 := IntWalk.i64_in _ (by omega)
      clear hc8 hf8
      go_region_held3 (fun w' => w'.cell? ⟨w7.heap.size, 0, none⟩ = some (.int .i64 f.d) ∧ w'.cell? ⟨w7.heap.size, 1, none⟩ = some (.int .i64 f.u) ∧ w'.cell? ⟨w7.heap.size, 2, none⟩ = some (.int .i64 f.s) ∧ w'.cell? ⟨w7.heap.size, 3, none⟩ = some (.int .i64 f.k) ∧ w'.cell? ⟨w7.heap.size, 4, none⟩ = some (.int .i64 f.a) ∧ w'.cell? ⟨w7.heap.size, 5, none⟩ = some (.int .i64 f.b))
        (first
          | go_keep
          | (refine ⟨?_, ?_, ?_, ?_, ?_, ?_⟩ <;> (rw [hgrow.cell_far _ (by simp; omega) (Ne.symm ag)]; go_keep)))
        ((refine step_append_lies _ (by rfl) _ _ _ (by rfl) (g + 1) 28 i0 _ 6 48 Try.underlying29 hi hz0 hz1 hz2 rfl (by omega) u15 j (factCells L) (by rfl) (((ownsRow_below (Hown7.out.alloc _) hb8).alloc _).drew)
              ⟨w8.heap.size, 0, none⟩ 1 1 [.int .i64 f.d, .int .i64 f.u, .int .i64 f.s, .int .i64 f.k, .int .i64 f.a, .int .i64 f.b] (by rfl) (by rfl) (World.news_of_block (cs := #[.int .i64 f.d, .int .i64 f.u, .int .i64 f.s, .int .i64 f.k, .int .i64 f.a, .int .i64 f.b]) (t := 28) (fr := (0, 0)) (heap_alloc_new w8 _)) (by simp [Value.oneCell'])
              (by omega) (by unfold maxLen; omega) (by omega) (by simp; omega) (w8.heap.size + 1) (by simp) ?_; intro gg cap w9 hown9 hgrow hat hltg))
      go_wp2
      go_roundw
      case rel =>
        refine ⟨j + 1, by omega, by go_num, ?_, ?_, ?_, ?_, ?_⟩
        · rw [Htf.out]; exact congrArg _ HD.out.symm
        · rw [Htf.out]; exact congrArg _ HN.out.symm
        · rw [Htf.out]
          show World.ownsRow _ _ _ _ _ _ (factCells (L ++ [f]))
          rw [Hcells.out]
          exact hown9
        · rw [Htf.out]
          exact TapeAt.grown (by repeat' (first | with_reducible assumption | with_reducible refine TapeAt.alloc ?_ _ | with_reducible refine TapeAt.drewN ?_ _ | with_reducible refine TapeAt.drew ?_ | with_reducible refine TapeAt.setCell ?_ ?_ _ | with_reducible refine TapeAt.below ?_ (by with_reducible assumption) ?_ | (simp; omega) | omega)) hgrow (fun x hx => by have := ab x hx; omega)
        · exact Below.grown (by repeat' (first | with_reducible exact Below.refl _ _ | with_reducible assumption | with_reducible refine below_drewN ?_ _ | with_reducible refine Below.drew ?_ | with_reducible refine Below.alloc ?_ ?_ _ | with_reducible refine Below.setCell ?_ ?_ _ | with_reducible refine Below.trans ?_ (Below.mono (by with_reducible assumption) ?_) | with_reducible refine below_only ?_ (by with_reducible assumption) ?_ ?_ | (simp; done) | (simp; omega) | omega)) hgrow (by simp; omega) (fun x hx => by have := ab x hx; omega)
      case measure => simp [intOf]; omega
    · have hjm' : j = m := by omega
      subst hjm'
      have hE : sumE L (wd0 % 201) = 0 := by rw [← HL.out]; exact sumE_tf j _ _ hm5 hw0 hw2
      obtain ⟨b1, b2, b3, b4⟩ : 0 ≤ sumD L ∧ sumD L ≤ 5368709120 ∧ 0 ≤ sumN L (wd0 % 201) ∧ sumN L (wd0 % 201) ≤ 5368709120 := by omega
      have HS : Hid (∀ W A' c', Lies W A' j (factCells L) → Calls Try.prog 17 #[.slice A' j c', .int .i64 (wd0 % 201)] W fun e w' => ∃ A2 c2, e = .returned (.tuple #[.int .i64 (sumD L), .int .i64 (sumN L (wd0 % 201)), .slice A2 j c2, .int .i64 0]) ∧ Below W.heap.size W w') := by
        intro W A' c' hA'
        refine (sumT_any A' j c' (wd0 % 201) W L t1 (by unfold maxLen; omega) hA').mono ?_
        rintro e w' ⟨v, rfl, hv, hb⟩
        have e1 : sumRV L (wd0 % 201) = sumR L (wd0 % 201) := by unfold sumRV; rw [if_pos hE]
        rw [e1, sumR_len, t1] at hv
        obtain ⟨A2, c2, rfl, _⟩ := own_slice hv
        refine ⟨A2, c2, ?_, hb⟩
        unfold sumDV sumNV
        rw [if_pos hE, if_pos hE, hE]
      obtain ⟨A', c', rfl, hl, _, _⟩ := own_slice hown
      clear hown t1 t2 t3 t4 t5 hE Htf HL
      have hl' := Lib.hid hl
      clear hl
      generalize sumD L = D at *
      generalize sumN L (wd0 % 201) = N at *
      go_wp2_with fail
      refine (HS.out _ _ _ hl'.out).mono ?_
      rintro e w7 ⟨A2, c2, rfl, hb7⟩
      have hs7 := hb7.size
      go_wp2_with (go_at_call 8; refine (awake28_any _).mono ?_; rintro e w8 ⟨rfl, hb8⟩)
      go_ret
      exact ⟨rfl, (by repeat' (first | with_reducible exact Below.refl _ _ | with_reducible assumption | with_reducible refine below_drewN ?_ _ | with_reducible refine Below.drew ?_ | with_reducible refine Below.alloc ?_ ?_ _ | with_reducible refine Below.setCell ?_ ?_ _ | with_reducible refine Below.trans ?_ (Below.mono (by with_reducible assumption) ?_) | with_reducible refine below_only ?_ (by with_reducible assumption) ?_ ?_ | (simp; done) | (simp; omega) | omega))⟩
end Go.Proofs.Ytepcelekjjalfaa
