/- The walk of DeterminedSeen. -/
import Derived.Test.YtepcelekjjalfaaWi
import Derived.BigRegion
import Derived.Deep.RegionHeld3
namespace Go.Proofs.Ytepcelekjjalfaa
open Go.RowKit
set_option linter.unusedVariables false

theorem line_season (d u k a b wd : Int) (hk : ¬ k = 0) (h : checkF d u (-1) k a b wd = 0) : lineV d u 1 k a b wd = lineV d u (-1) k a b wd ∧ checkF d u 1 k a b wd = 0 := by
  obtain ⟨h1, h2, h3, h4, h5, h6⟩ := (checkF_zero _ _ _ _ _ _ _).1 h
  have h' : checkF d u 1 k a b wd = 0 := (checkF_zero _ _ _ _ _ _ _).2 ⟨h1, h2, by omega, h4, h5, h6⟩
  refine ⟨?_, h'⟩
  unfold lineV limL secR
  rw [if_pos h, if_pos h', if_neg hk, if_neg hk]
theorem line_open (d u wd : Int) (h : checkF d u 0 0 0 0 wd = 0) : lineV d u 0 0 0 0 wd = (u, if u < d then 1 else 0) := by
  obtain ⟨h1, h2, h3, h4, h5, h6⟩ := (checkF_zero _ _ _ _ _ _ _).1 h
  unfold lineV
  rw [if_pos h]
  unfold limL
  rw [show secR 0 0 = 0 from by decide, if_pos rfl]
  simp only [List.foldl, lay]
  by_cases hu : u < d
  · rw [if_pos hu, if_pos hu]
  · rw [if_neg hu, if_neg hu]
    have : u = d := by omega
    rw [this]
theorem line_same (d u b wd : Int) (h : checkF d u 0 1 d b wd = 0) : lineV d u 0 1 d b wd = (u, if u < d then 1 else 0) := by
  obtain ⟨h1, h2, h3, h4, h5, h6⟩ := (checkF_zero _ _ _ _ _ _ _).1 h
  rw [if_pos rfl] at h5
  have hT : checkT d d b wd = 0 := (checkT_zero _ _ _ _).2 ⟨h5, h6.1, h6.2, h1.1, h1.2⟩
  have hb := (measB_iff _ _).1 h5
  have hm := mul_bd hb.2.1 hb.2.2 h6.1 h6.2
  have hn : secN d d b wd 1 = d := by
    unfold secN acceptV
    rw [if_pos rfl, if_pos hT]
    rw [if_pos (by omega)]
  unfold lineV
  rw [if_pos h]
  unfold limL
  rw [show secR 0 1 = 6 from by decide, if_neg (by decide), hn]
  simp only [List.foldl, lay]
  by_cases hu : u < d
  · rw [if_pos hu, if_pos hu]; rw [if_neg (by simp; omega)]
  · rw [if_neg hu, if_neg hu]
    have : u = d := by omega
    rw [this]
    simp

set_option maxHeartbeats 1000000 in
theorem seen_zero (A : Option Addr) (n c : Nat) (zs : List Int) (wd : Int) (w : World) (hn : zs.length = n) (hc : n ≤ c) (hm : c ≤ maxLen) (hw : ∀ z ∈ zs, (Lit.int .i64 z).wf = true) (hA : Lies w A n (zs.map (.int .i64))) (h0 : 0 ≤ wd) (h1 : wd ≤ 255)
    (hk0 : (factOf (zs.take 400)).k = 0) :
    Calls Try.prog 5 #[.slice A n c, .int .u8 wd] w fun e w' => e = .returned (.bool true) ∧ Below w.heap.size w w' := by
  have Hnew := Lib.hid (new_any A n c zs w hn hc hm hw hA)
  clear hn hc hm hw hA
  generalize zs.take 400 = r at *
  have hchk := fact_right r (wd % 201) (by omega) (by omega)
  have hfb := fact_bd r
  have Hf : Hid (∀ g W, TapeAt W g r → Calls Try.prog 10 #[.pointer (some ⟨g, 0, none⟩)] W (TakePost W g (fRest r) (.agg #[.int .i64 (factOf r).d, .int .i64 (factOf r).u, .int .i64 (factOf r).s, .int .i64 (factOf r).k, .int .i64 (factOf r).a, .int .i64 (factOf r).b]))) := fun g W h => fact_any g r W h
  rw [hk0] at Hf
  unfold chkOf at hchk
  obtain ⟨q1, q2, q3, q4, q5, q6⟩ := (checkF_zero _ _ _ _ _ _ _).1 hchk
  clear hchk hk0 hfb
  generalize (factOf r).d = d at *
  generalize (factOf r).u = u at *
  generalize (factOf r).s = s at *
  generalize (factOf r).a = a at *
  generalize (factOf r).b = b at *
  generalize (factOf r).k = k at *
  generalize fRest r = rest at *
  have hx := nx_bd rest 50 (by omega)
  have Hn : Hid (∀ g W, TapeAt W g rest → Calls Try.prog 11 #[.pointer (some ⟨g, 0, none⟩), .int .i64 50] W (NextPost W g rest (nx rest 50))) := fun g W h => next_any g rest 50 W h (by omega)
  generalize nx rest 50 = x at *
  have z1 : checkF d u 0 0 0 0 (wd % 201) = 0 := (checkF_zero _ _ _ _ _ _ _).2 ⟨q1, q2, by omega, by omega, by rw [if_neg (by decide)]; exact ⟨rfl, rfl⟩, q6⟩
  have z2 : checkF d u 0 1 d x (wd % 201) = 0 := (checkF_zero _ _ _ _ _ _ _).2 ⟨q1, q2, by omega, by omega, by rw [if_pos rfl, measB_iff]; omega, q6⟩
  have L1 := Lib.hid (line_right _ _ _ _ _ _ _ z1)
  have L2 := Lib.hid (line_right _ _ _ _ _ _ _ z2)
  rw [line_open _ _ _ z1] at L1
  rw [line_same _ _ _ _ z2] at L2
  clear z1 z2 q5 q3 q4
  have hv : Hid (∃ v : Int, v = if u < d then 1 else 0) := ⟨_, rfl⟩
  generalize (if u < d then (1 : Int) else 0) = v at *
  clear hv
  go_enter Try.func5, Try.ntmps5
  go_wp2_with fail
  refine Hnew.out.mono ?_
  rintro e w1 ⟨g, rfl, hg, ht, hb1⟩
  have hgl := ht.lt
  go_wp2_with fail
  refine (Hf.out g _ ht).mono ?_
  rintro e w2 ⟨rfl, ht2, hg2⟩
  have hs2 := hg2.size
  go_wp2_with fail
  have n0 : ¬ w2.heap.size = g := by omega
  have n1 : ¬ w2.heap.size + 1 = g := by omega
  have n2 : ¬ w2.heap.size + 1 + 1 = g := by omega
  go_region_held3 (fun w' => w'.cell? ⟨w2.heap.size, 0, none⟩ = some (.int .i64 d))
    (first
      | go_keep
      | (rw [hc5 _ _ (by simp; omega) n0]; go_keep)
      | (rw [World.cell?_setCell_other _ _ _ _ (by intro e; injection e; omega), World.cell?_setCell_other _ _ _ _ (by intro e; injection e; omega), World.cell?_setCell_other _ _ _ _ (by intro e; injection e; omega), hc5 _ _ (by simp; omega) n0]; go_keep))
    ((go_at_call 11; refine (Hn.out g _ (by repeat' (first | with_reducible assumption | with_reducible refine TapeAt.alloc ?_ _ | with_reducible refine TapeAt.drewN ?_ _ | with_reducible refine TapeAt.drew ?_ | with_reducible refine TapeAt.setCell ?_ ?_ _ | with_reducible refine TapeAt.below ?_ (by with_reducible assumption) ?_ | (simp; omega) | omega))).mono ?_; rintro e w5 ⟨rfl, ht5, hg5⟩; obtain ⟨hc5, hf5⟩ := tcell hg5; have hl5 : w2.heap.size + 1 + 1 < w5.heap.size := (by have := hg5.size; (try simp at this); omega)))
  have hl5' : w2.heap.size + 1 < w5.heap.size := by omega
  have hl5'' : w2.heap.size < w5.heap.size := by omega
  go_wp2_with fail
  refine (L1.out _).mono ?_
  rintro e w6 ⟨rfl, hb6⟩
  obtain ⟨hc6, hf6⟩ := bcell hb6
  have hs6 : w5.heap.size ≤ w6.heap.size := by have := hb6.size; simpa using this
  have hl6 : w2.heap.size + 1 + 1 < w6.heap.size := by omega
  have hl6' : w2.heap.size + 1 < w6.heap.size := by omega
  have hl6'' : w2.heap.size < w6.heap.size := by omega
  go_wp2_with fail
  refine (L2.out _).mono ?_
  rintro e w7 ⟨rfl, hb7⟩
  obtain ⟨hc7, hf7⟩ := bcell hb7
  have hs7 : w6.heap.size ≤ w7.heap.size := by have := hb7.size; simpa using this
  go_wp2_with (go_at_call 8; refine (awake28_any _).mono ?_; rintro e w8 ⟨rfl, hb8⟩)
  go_ret
  exact ⟨rfl, (by repeat' (first | with_reducible exact Below.refl _ _ | with_reducible assumption | with_reducible refine below_drewN ?_ _ | with_reducible refine Below.drew ?_ | with_reducible refine Below.alloc ?_ ?_ _ | with_reducible refine Below.setCell ?_ ?_ _ | with_reducible refine Below.trans ?_ (Below.mono (by with_reducible assumption) ?_) | with_reducible refine below_only ?_ (by with_reducible assumption) ?_ ?_ | (simp; done) | (simp; omega) | omega))⟩

set_option maxHeartbeats 2000000 in
theorem seen_more (A : Option Addr) (n c : Nat) (zs : List Int) (wd : Int) (w : World) (hn : zs.length = n) (hc : n ≤ c) (hm : c ≤ maxLen) (hw : ∀ z ∈ zs, (Lit.int .i64 z).wf = true) (hA : Lies w A n (zs.map (.int .i64))) (h0 : 0 ≤ wd) (h1 : wd ≤ 255)
    (hk0 : ¬ (factOf (zs.take 400)).k = 0) :
    Calls Try.prog 5 #[.slice A n c, .int .u8 wd] w fun e w' => e = .returned (.bool true) ∧ Below w.heap.size w w' := by
  have Hnew := Lib.hid (new_any A n c zs w hn hc hm hw hA)
  clear hn hc hm hw hA
  generalize zs.take 400 = r at *
  have hchk := fact_right r (wd % 201) (by omega) (by omega)
  have Hf : Hid (∀ g W, TapeAt W g r → Calls Try.prog 10 #[.pointer (some ⟨g, 0, none⟩)] W (TakePost W g (fRest r) (.agg #[.int .i64 (factOf r).d, .int .i64 (factOf r).u, .int .i64 (factOf r).s, .int .i64 (factOf r).k, .int .i64 (factOf r).a, .int .i64 (factOf r).b]))) := fun g W h => fact_any g r W h
  unfold chkOf at hchk
  obtain ⟨q1, q2, q3, q4, q5, q6⟩ := (checkF_zero _ _ _ _ _ _ _).1 hchk
  clear hchk
  generalize (factOf r).d = d at *
  generalize (factOf r).u = u at *
  generalize (factOf r).s = s at *
  generalize (factOf r).a = a at *
  generalize (factOf r).b = b at *
  generalize (factOf r).k = k at *
  generalize fRest r = rest at *
  have hx := nx_bd rest 50 (by omega)
  have Hn : Hid (∀ g W, TapeAt W g rest → Calls Try.prog 11 #[.pointer (some ⟨g, 0, none⟩), .int .i64 50] W (NextPost W g rest (nx rest 50))) := fun g W h => next_any g rest 50 W h (by omega)
  generalize nx rest 50 = x at *
  have z0 : checkF d u (-1) k a b (wd % 201) = 0 := (checkF_zero _ _ _ _ _ _ _).2 ⟨q1, q2, by omega, q4, q5, q6⟩
  have z0' := line_season _ _ _ _ _ _ hk0 z0
  have M1 := Lib.hid (line_right _ _ _ _ _ _ _ z0)
  have M2 := Lib.hid (line_right _ _ _ _ _ _ _ z0'.2)
  rw [z0'.1] at M2
  have z1 : checkF d u 0 0 0 0 (wd % 201) = 0 := (checkF_zero _ _ _ _ _ _ _).2 ⟨q1, q2, by omega, by omega, by rw [if_neg (by decide)]; exact ⟨rfl, rfl⟩, q6⟩
  have z2 : checkF d u 0 1 d x (wd % 201) = 0 := (checkF_zero _ _ _ _ _ _ _).2 ⟨q1, q2, by omega, by omega, by rw [if_pos rfl, measB_iff]; omega, q6⟩
  have L1 := Lib.hid (line_right _ _ _ _ _ _ _ z1)
  have L2 := Lib.hid (line_right _ _ _ _ _ _ _ z2)
  rw [line_open _ _ _ z1] at L1
  rw [line_same _ _ _ _ z2] at L2
  clear z0 z0' z1 z2 q5 q3 q4
  generalize (if u < d then (1 : Int) else 0) = v at *
  generalize lineV d u (-1) k a b (wd % 201) = q at *
  have hk1 : (k != 0) = true := by simpa using hk0
  go_enter Try.func5, Try.ntmps5
  go_wp2_with fail
  refine Hnew.out.mono ?_
  rintro e w1 ⟨g, rfl, hg, ht, hb1⟩
  have hgl := ht.lt
  go_wp2_with fail
  refine (Hf.out g _ ht).mono ?_
  rintro e w2 ⟨rfl, ht2, hg2⟩
  have hs2 := hg2.size
  go_wp2_with fail
  have n0 : ¬ w2.heap.size = g := by omega
  go_region
  all_goals
    go_wp2_with fail
    refine (M1.out _).mono ?_
    rintro e w3 ⟨rfl, hb3⟩
    obtain ⟨hc3, hf3⟩ := bcell hb3
    have hl3 : w2.heap.size + 1 + 1 < w3.heap.size := by have := hb3.size; simp at this; omega
    have hl3' : w2.heap.size + 1 < w3.heap.size := by omega
    have hl3'' : w2.heap.size < w3.heap.size := by omega
    go_wp2_with fail
    refine (M2.out _).mono ?_
    rintro e w4 ⟨rfl, hb4⟩
    obtain ⟨hc4, hf4⟩ := bcell hb4
    have hs4 := hb4.size
    have hl4'' : w2.heap.size < w4.heap.size := by omega
    have ht4 : TapeAt w4 g rest := (by repeat' (first | with_reducible assumption | with_reducible refine TapeAt.alloc ?_ _ | with_reducible refine TapeAt.drewN ?_ _ | with_reducible refine TapeAt.drew ?_ | with_reducible refine TapeAt.setCell ?_ ?_ _ | with_reducible refine TapeAt.below ?_ (by with_reducible assumption) ?_ | (simp; omega) | omega))
    have n4 : ¬ w4.heap.size = g := by omega
    have n4' : ¬ w4.heap.size + 1 = g := by omega
    go_wp2_with fail
    have cf : w4.cell? ⟨w2.heap.size, 0, none⟩ = some (.int .i64 d) := by rw [hc4 _ _ hl3'', hc3 _ _ (by simp; omega)]; go_simp
    have cf2 : ∀ o o' : Obj, ((w4.alloc o).alloc o').cell? ⟨w2.heap.size, 0, none⟩ = some (.int .i64 d) := fun o o' => by
      rw [World.cell?_alloc_lt _ _ _ (by simp; omega), World.cell?_alloc_lt _ _ _ hl4'']; exact cf
    have cg : w4.cell? ⟨w2.heap.size, 1, none⟩ = some (.int .i64 u) := by rw [hc4 _ _ hl3'', hc3 _ _ (by simp; omega)]; go_simp
    have cg2 : ∀ o o' : Obj, ((w4.alloc o).alloc o').cell? ⟨w2.heap.size, 1, none⟩ = some (.int .i64 u) := fun o o' => by
      rw [World.cell?_alloc_lt _ _ _ (by simp; omega), World.cell?_alloc_lt _ _ _ hl4'']; exact cg
    go_region_held3 (fun w' => w'.cell? ⟨w2.heap.size, 0, none⟩ = some (.int .i64 d))
      (first
        | go_keep
        | (rw [hc5 _ _ (by simp; omega) n0]; go_keep)
        | (rw [World.cell?_setCell_other _ _ _ _ (by intro e; injection e; omega), World.cell?_setCell_other _ _ _ _ (by intro e; injection e; omega), World.cell?_setCell_other _ _ _ _ (by intro e; injection e; omega), hc5 _ _ (by simp; omega) n0]; go_keep))
      ((go_at_call 11; refine (Hn.out g _ (by repeat' (first | with_reducible assumption | with_reducible refine TapeAt.alloc ?_ _ | with_reducible refine TapeAt.drewN ?_ _ | with_reducible refine TapeAt.drew ?_ | with_reducible refine TapeAt.setCell ?_ ?_ _ | with_reducible refine TapeAt.below ?_ (by with_reducible assumption) ?_ | (simp; omega) | omega))).mono ?_; rintro e w5 ⟨rfl, ht5, hg5⟩; obtain ⟨hc5, hf5⟩ := tcell hg5; have hl5 : w4.heap.size + 1 < w5.heap.size := (by have := hg5.size; (try simp at this); omega); have hl5' : w4.heap.size < w5.heap.size := (by omega)))
    have hl5'' : w2.heap.size < w5.heap.size := by omega
    go_wp2_with fail
    refine (L1.out _).mono ?_
    rintro e w6 ⟨rfl, hb6⟩
    obtain ⟨hc6, hf6⟩ := bcell hb6
    have hs6 : w5.heap.size ≤ w6.heap.size := by have := hb6.size; simpa using this
    have hl6 : w4.heap.size + 1 < w6.heap.size := by omega
    have hl6' : w4.heap.size < w6.heap.size := by omega
    have hl6'' : w2.heap.size < w6.heap.size := by omega
    go_wp2_with fail
    refine (L2.out _).mono ?_
    rintro e w7 ⟨rfl, hb7⟩
    obtain ⟨hc7, hf7⟩ := bcell hb7
    have hs7 : w6.heap.size ≤ w7.heap.size := by have := hb7.size; simpa using this
    have cu7 : w7.cell? ⟨w2.heap.size, 1, none⟩ = some (.int .i64 u) := by
      rw [hc7 _ _ hl6'', hc6 _ _ (by simp; omega), World.cell?_setCell_other _ _ _ _ (by intro e; injection e; omega), World.cell?_setCell_other _ _ _ _ (by intro e; injection e; omega), World.cell?_setCell_other _ _ _ _ (by intro e; injection e; omega), hc5 _ _ (by simp; omega) n0]
      exact cg2 _ _
    clear hc7 hf7 hc6 hf6 hc5 hf5 hc4 hf4 hc3 hf3 cf cf2 cg cg2
    go_wp2_with (go_at_call 8; refine (awake28_any _).mono ?_; rintro e w8 ⟨rfl, hb8⟩)
    go_ret
    exact ⟨rfl, (by repeat' (first | with_reducible exact Below.refl _ _ | with_reducible assumption | with_reducible refine below_drewN ?_ _ | with_reducible refine Below.drew ?_ | with_reducible refine Below.alloc ?_ ?_ _ | with_reducible refine Below.setCell ?_ ?_ _ | with_reducible refine Below.trans ?_ (Below.mono (by with_reducible assumption) ?_) | with_reducible refine below_only ?_ (by with_reducible assumption) ?_ ?_ | (simp; done) | (simp; omega) | omega))⟩

theorem seenlaw_any (A : Option Addr) (n c : Nat) (zs : List Int) (wd : Int) (w : World) (hn : zs.length = n) (hc : n ≤ c) (hm : c ≤ maxLen) (hw : ∀ z ∈ zs, (Lit.int .i64 z).wf = true) (hA : Lies w A n (zs.map (.int .i64))) (h0 : 0 ≤ wd) (h1 : wd ≤ 255) :
    Calls Try.prog 5 #[.slice A n c, .int .u8 wd] w fun e w' => e = .returned (.bool true) ∧ Below w.heap.size w w' := by
  by_cases hk : (factOf (zs.take 400)).k = 0
  · exact seen_zero A n c zs wd w hn hc hm hw hA h0 h1 hk
  · exact seen_more A n c zs wd w hn hc hm hw hA h0 h1 hk
end Go.Proofs.Ytepcelekjjalfaa
