/- Contract: the law's sanity check (strata). -/
import Derived.Test.YtjmbdfoegnfpnaaK7
import Derived.Test.YtjmbdfoegnfpnaaJ5
import Derived.Test.YtjmbdfoegnfpnaaK6
namespace Go.Proofs.Ytjmbdfoegnfpnaa
open Go.RowKit
set_option linter.unusedVariables false
set_option linter.unusedSimpArgs false

def awQ : Pl := ⟨[1, 2], [50, 80], [0, 1000, 0], 0, 0⟩
def awU : Un := ⟨3, [10, 20]⟩
theorem aw_check : checkP awQ = 0 := by decide
theorem aw_units : unitsP awQ [awU] = 0 := by decide
theorem aw_score : scoreP awQ awU = 50 := by decide
theorem aw_strat : stratP awQ 50 = 1 := by decide
theorem samp_none (s : Int) : sampleP s [] 0 = ([], 0) := by simp [sampleP, tickS, srt]
theorem samp_zero (s x : Int) (hx : 0 ≤ x) : sampleP s [x] 0 = ([], 0) := by simp [sampleP, tickS, srt, badU, hx]
theorem samp_one (s x : Int) (hx : 0 ≤ x) : sampleP s [x] 1 = ([x], 0) := by simp [sampleP, tickS, srt, badU, hx]
theorem aw_rest0 (s : Nat) (h : s ≠ 1) : restP awQ [awU] [] s = [] := by
  unfold restP
  have : inS awQ [] s awU = false := by
    unfold inS
    rw [show strOf awQ awU = 1 from by decide, decide_eq_false (p := (1 = s)) (fun e => h e.symm)]
    simp
  simp [this, farms]
theorem aw_rest1 : restP awQ [awU] [] 1 = [3] := by decide
theorem aw_size0 (s : Nat) : sizeP awQ s 0 = 0 := by
  unfold sizeP upM
  rw [Int.zero_mul]
  show min (0 : Int) (max 0 (-(-0 / 1000))) = 0
  decide
theorem aw_size1 : sizeP awQ 1 1 = 1 := by decide
theorem aw_rand : randP awQ [awU] 5 = [] := by
  unfold randP
  have h1 : farms [awU] = [3] := rfl
  have h2 : upM ((([awU] : List Un).length : Int) * awQ.ra) = 0 := by decide
  rw [h1, h2, samp_zero _ _ (by omega)]
theorem aw_draw0 (s : Nat) (h : s ≠ 1) : drawP awQ [awU] 5 [] s = [] := by
  unfold drawP
  rw [aw_rest0 s h]
  show (sampleP _ [] (sizeP awQ s 0)).1 = []
  rw [aw_size0, samp_none]
theorem aw_draw1 : drawP awQ [awU] 5 [] 1 = [3] := by
  unfold drawP
  rw [aw_rest1]
  show (sampleP _ [3] (sizeP awQ 1 1)).1 = [3]
  rw [aw_size1, samp_one _ _ (by omega)]
theorem aw_choose : chooseP awQ [awU] 5 = ([(3, 1)], 0) := by
  unfold chooseP
  rw [if_neg (by rw [aw_units]; simp), aw_rand]
  have h1 : farms [awU] = [3] := rfl
  have h2 : mapF awQ [awU] 5 [] awQ.ss.length 3 = some 1 := by
    show mapF awQ [awU] 5 [] 3 3 = some 1
    simp only [mapF]
    rw [aw_draw0 2 (by omega), aw_draw1]
    simp
  rw [h1]
  unfold picks
  simp [h2]
-- AWAKE
theorem Sl.of_row {W : World} {b : Nat} {t : TypeId} {cs : Array Value} (h : W.heap[b]? = some (.cells cs t (0, 0))) (hm : cs.size ≤ maxLen) : Sl W (some ⟨b, 0, none⟩) cs.size cs.toList := by
  have hlt : b < W.heap.size := by
    rcases Nat.lt_or_ge b W.heap.size with h' | h'
    · exact h'
    · rw [Array.getElem?_eq_none h'] at h; cases h
  refine ⟨by simp, hm, .inr ⟨b, 0, rfl, hlt, fun j u hu => ?_⟩⟩
  have := World.news_of_block h j u hu
  rwa [add_none] at this
theorem alloc6 (w : World) (o1 o2 o3 o4 o5 o6 : Obj) (W : World) (hW : W = (((((w.alloc o1).alloc o2).alloc o3).alloc o4).alloc o5).alloc o6) : W.heap[w.heap.size]? = some o1 ∧ W.heap[w.heap.size + 1]? = some o2 ∧ W.heap[w.heap.size + 1 + 1]? = some o3 ∧ W.heap[w.heap.size + 1 + 1 + 1]? = some o4 ∧ W.heap[w.heap.size + 1 + 1 + 1 + 1]? = some o5 ∧ W.heap[w.heap.size + 1 + 1 + 1 + 1 + 1]? = some o6 ∧ W.heap.size = w.heap.size + 1 + 1 + 1 + 1 + 1 + 1 ∧ Below w.heap.size w W := by
  subst hW
  have up : ∀ (X : World) (o : Obj) (i : Nat) (x : Obj), X.heap[i]? = some x → (X.alloc o).heap[i]? = some x := by
    intro X o i x h
    have hlt : i < X.heap.size := by
      rcases Nat.lt_or_ge i X.heap.size with h' | h'
      · exact h'
      · rw [Array.getElem?_eq_none h'] at h; cases h
    exact (Below.heap_alloc X o i hlt).trans h
  have new : ∀ (X : World) (o : Obj) (n : Nat), X.heap.size = n → (X.alloc o).heap[n]? = some o := by
    rintro X o n rfl
    exact heap_alloc_new X o
  refine ⟨up _ _ _ _ (up _ _ _ _ (up _ _ _ _ (up _ _ _ _ (up _ _ _ _ (new w o1 _ rfl))))), up _ _ _ _ (up _ _ _ _ (up _ _ _ _ (up _ _ _ _ (new _ o2 _ (by simp))))), up _ _ _ _ (up _ _ _ _ (up _ _ _ _ (new _ o3 _ (by simp)))), up _ _ _ _ (up _ _ _ _ (new _ o4 _ (by simp))), up _ _ _ _ (new _ o5 _ (by simp)), new _ o6 _ (by simp), by simp, (by repeat' (first | with_reducible exact Below.refl _ _ | with_reducible refine below_drewN ?_ _ | with_reducible refine Below.drew ?_ | with_reducible refine Below.alloc ?_ ?_ _ | with_reducible refine Below.setCell ?_ ?_ _ | with_reducible refine Below.trans ?_ (Below.mono (by with_reducible assumption) ?_) | (simp; done) | (simp; omega) | omega))⟩

set_option maxHeartbeats 8000000 in
set_option maxRecDepth 100000 in
theorem awake25_any (w : World) : Calls Try.prog 9 #[] w fun e w' => e = .returned (.bool true) ∧ Below w.heap.size w w' := by
  go_enter Try.func9, Try.ntmps9
  go_upto_region 3 with fail
  obtain ⟨w6, hw6⟩ : ∃ w6 : World, w6 = (((((w.alloc (.cells #[.int .i64 1, .int .i64 2] 3)).alloc (.cells #[.int .i64 50, .int .i64 80] 3)).alloc (.cells #[.int .i64 0, .int .i64 1000, .int .i64 0] 3)).alloc (.cells #[.slice (some ⟨w.heap.size, 0, none⟩) 2 2, .slice (some ⟨w.heap.size + 1, 0, none⟩) 2 2, .slice (some ⟨w.heap.size + 1 + 1, 0, none⟩) 3 3, .int .i64 0, .int .i64 0] 24)).alloc (.cells #[.int .i64 10, .int .i64 20] 3)).alloc (.cells #[.int .i64 3, .slice (some ⟨w.heap.size + 1 + 1 + 1 + 1, 0, none⟩) 2 2] 27) := ⟨_, rfl⟩
  rw [← hw6]
  obtain ⟨h1, h2, h3, h4, h5, h6, hs6, hb6⟩ := alloc6 w _ _ _ _ _ _ w6 hw6
  clear hw6
  have HB6 := Lib.hid hb6
  have H4 := Lib.hid h4
  have H6 := Lib.hid h6
  have HPl : Hid (PlAt w6 ⟨some ⟨w.heap.size, 0, none⟩, 2, some ⟨w.heap.size + 1, 0, none⟩, 2, some ⟨w.heap.size + 1 + 1, 0, none⟩, 3⟩ awQ) := Lib.hid ⟨Sl.of_row h1 (by simp [maxLen]), Sl.of_row h2 (by simp [maxLen]), Sl.of_row h3 (by simp [maxLen])⟩
  have HUf : Hid (Sl w6 (some ⟨w.heap.size + 1 + 1 + 1 + 1, 0, none⟩) 2 (awU.fs.map (.int .i64))) := Lib.hid (Sl.of_row h5 (by simp [maxLen]))
  have Hck : Hid (∀ W, Below w6.heap.size w6 W → Calls Try.prog 16 #[.agg #[.slice (some ⟨w.heap.size, 0, none⟩) 2 2, .slice (some ⟨w.heap.size + 1, 0, none⟩) 2 2, .slice (some ⟨w.heap.size + 1 + 1, 0, none⟩) 3 3, .int .i64 0, .int .i64 0]] W fun e w' => e = .returned (.int .i64 0) ∧ Below W.heap.size W w') := Lib.hid (fun W hW => by
    have := checkS_any _ awQ W (HPl.out.below hW)
    rw [aw_check] at this
    exact this)
  have Hsc : Hid (∀ W, Below w6.heap.size w6 W → Calls Try.prog 20 #[.agg #[.slice (some ⟨w.heap.size, 0, none⟩) 2 2, .slice (some ⟨w.heap.size + 1, 0, none⟩) 2 2, .slice (some ⟨w.heap.size + 1 + 1, 0, none⟩) 3 3, .int .i64 0, .int .i64 0], .agg #[.int .i64 3, .slice (some ⟨w.heap.size + 1 + 1 + 1 + 1, 0, none⟩) 2 2]] W fun e w' => e = .returned (.int .i64 50) ∧ Below W.heap.size W w') := Lib.hid (fun W hW => by
    have := scoS_any _ awQ ⟨some ⟨w.heap.size + 1 + 1 + 1 + 1, 0, none⟩, 2⟩ awU W (HPl.out.below hW) (HUf.out.below hW)
    rw [aw_score] at this
    exact this)
  have Hst : Hid (∀ W, Below w6.heap.size w6 W → Calls Try.prog 18 #[.agg #[.slice (some ⟨w.heap.size, 0, none⟩) 2 2, .slice (some ⟨w.heap.size + 1, 0, none⟩) 2 2, .slice (some ⟨w.heap.size + 1 + 1, 0, none⟩) 3 3, .int .i64 0, .int .i64 0], .int .i64 50] W fun e w' => e = .returned (.int .i64 1) ∧ Below W.heap.size W w') := Lib.hid (fun W hW => by
    have := stratS_any _ awQ 50 W (HPl.out.below hW)
    rw [aw_strat] at this
    exact this)
  have Hch : Hid (Calls Try.prog 27 #[.agg #[.slice (some ⟨w.heap.size, 0, none⟩) 2 2, .slice (some ⟨w.heap.size + 1, 0, none⟩) 2 2, .slice (some ⟨w.heap.size + 1 + 1, 0, none⟩) 3 3, .int .i64 0, .int .i64 0], .slice (some ⟨w6.heap.size, 0, none⟩) 1 1, .int .u64 5] (w6.alloc (.cells #[.int .i64 3, .slice (some ⟨w.heap.size + 1 + 1 + 1 + 1, 0, none⟩) 2 2] 27)) (ChoosePost (w6.alloc (.cells #[.int .i64 3, .slice (some ⟨w.heap.size + 1 + 1 + 1 + 1, 0, none⟩) 2 2] 27)) ([(3, 1)], 0))) := Lib.hid (by
    have hal : Below w6.heap.size w6 (w6.alloc (.cells #[.int .i64 3, .slice (some ⟨w.heap.size + 1 + 1 + 1 + 1, 0, none⟩) 2 2] 27)) := (Below.refl _ _).alloc (Nat.le_refl _) _
    have hS : SlU (w6.alloc (.cells #[.int .i64 3, .slice (some ⟨w.heap.size + 1 + 1 + 1 + 1, 0, none⟩) 2 2] 27)) (some ⟨w6.heap.size, 0, none⟩) 1 1 [(awU, ⟨some ⟨w.heap.size + 1 + 1 + 1 + 1, 0, none⟩, 2⟩)] := by
      refine ⟨rfl, Nat.le_refl _, by unfold maxLen; omega, Lies.new w6 _ _ 1 _ rfl _ rfl, fun x hx => ?_⟩
      rw [List.mem_singleton] at hx
      subst hx
      exact HUf.out.below hal
    have := chooseS_any _ awQ (some ⟨w6.heap.size, 0, none⟩) 1 [(awU, ⟨some ⟨w.heap.size + 1 + 1 + 1 + 1, 0, none⟩, 2⟩)] 5 _ (HPl.out.below hal) hS
    rw [show uns [(awU, (⟨some ⟨w.heap.size + 1 + 1 + 1 + 1, 0, none⟩, 2⟩ : UV))] = [awU] from rfl, aw_choose] at this
    exact this)
  have hl3 : w.heap.size + 1 + 1 + 1 < w6.heap.size := by omega
  have hl5 : w.heap.size + 1 + 1 + 1 + 1 + 1 < w6.heap.size := by omega
  have HS6 := Lib.hid hs6
  clear h1 h2 h3 h5 h4 h6 hs6 hb6
  have p0 := rowCell (((Below.refl w6.heap.size w6).block _ hl3).trans H4.out) (i := 0) rfl
  have p1 := rowCell (((Below.refl w6.heap.size w6).block _ hl3).trans H4.out) (i := 1) rfl
  have p2 := rowCell (((Below.refl w6.heap.size w6).block _ hl3).trans H4.out) (i := 2) rfl
  have p3 := rowCell (((Below.refl w6.heap.size w6).block _ hl3).trans H4.out) (i := 3) rfl
  have p4 := rowCell (((Below.refl w6.heap.size w6).block _ hl3).trans H4.out) (i := 4) rfl
  have r0 := rowCell (((Below.refl w6.heap.size w6).block _ hl5).trans H6.out) (i := 0) rfl
  have r1 := rowCell (((Below.refl w6.heap.size w6).block _ hl5).trans H6.out) (i := 1) rfl
  go_wp2_with fail
  refine Hch.out.mono ?_
  rintro e w7 ⟨vk, rfl, hown7, hb7⟩
  have Hb7 : Hid (Below w6.heap.size w6 w7) := Lib.hid (show Below w6.heap.size w6 w7 from (have hq := hb7; (by repeat' (first | with_reducible exact Below.refl _ _ | with_reducible assumption | with_reducible refine below_drewN ?_ _ | with_reducible refine Below.drew ?_ | with_reducible refine Below.alloc ?_ ?_ _ | with_reducible refine Below.setCell ?_ ?_ _ | with_reducible refine Below.trans ?_ (Below.mono (by with_reducible assumption) ?_) | with_reducible refine below_only ?_ (by with_reducible assumption) ?_ ?_ | (simp; done) | (simp; omega) | omega))))
  dsimp only at hown7
  obtain ⟨KA, kc, rfl, hSk⟩ := SlK.of_own (l := [(3, 1)]) hown7
  have HSk := Lib.hid hSk
  clear hown7 hb7 hSk
  clear p0 p1 p2 p3 p4 r0 r1
  have p0 := rowCell ((Hb7.out.block _ hl3).trans H4.out) (i := 0) rfl
  have p1 := rowCell ((Hb7.out.block _ hl3).trans H4.out) (i := 1) rfl
  have p2 := rowCell ((Hb7.out.block _ hl3).trans H4.out) (i := 2) rfl
  have p3 := rowCell ((Hb7.out.block _ hl3).trans H4.out) (i := 3) rfl
  have p4 := rowCell ((Hb7.out.block _ hl3).trans H4.out) (i := 4) rfl
  have r0 := rowCell ((Hb7.out.block _ hl5).trans H6.out) (i := 0) rfl
  have r1 := rowCell ((Hb7.out.block _ hl5).trans H6.out) (i := 1) rfl
  go_wp2_with fail
  refine (Hck.out _ Hb7.out).mono ?_
  rintro e w8 ⟨rfl, hb8⟩
  have Hb8 := Lib.hid (Hb7.out.trans (hb8.mono Hb7.out.size))
  have Hb78 := Lib.hid hb8
  clear hb8
  clear p0 p1 p2 p3 p4 r0 r1
  have p0 := rowCell ((Hb8.out.block _ hl3).trans H4.out) (i := 0) rfl
  have p1 := rowCell ((Hb8.out.block _ hl3).trans H4.out) (i := 1) rfl
  have p2 := rowCell ((Hb8.out.block _ hl3).trans H4.out) (i := 2) rfl
  have p3 := rowCell ((Hb8.out.block _ hl3).trans H4.out) (i := 3) rfl
  have p4 := rowCell ((Hb8.out.block _ hl3).trans H4.out) (i := 4) rfl
  have r0 := rowCell ((Hb8.out.block _ hl5).trans H6.out) (i := 0) rfl
  have r1 := rowCell ((Hb8.out.block _ hl5).trans H6.out) (i := 1) rfl
  go_wp2_with fail
  refine (Hsc.out _ Hb8.out).mono ?_
  rintro e w9 ⟨rfl, hb9⟩
  have Hb9 := Lib.hid (Hb8.out.trans (hb9.mono Hb8.out.size))
  have Hb79 := Lib.hid (Hb78.out.trans (hb9.mono Hb78.out.size))
  clear hb9
  clear p0 p1 p2 p3 p4 r0 r1
  have p0 := rowCell ((Hb9.out.block _ hl3).trans H4.out) (i := 0) rfl
  have p1 := rowCell ((Hb9.out.block _ hl3).trans H4.out) (i := 1) rfl
  have p2 := rowCell ((Hb9.out.block _ hl3).trans H4.out) (i := 2) rfl
  have p3 := rowCell ((Hb9.out.block _ hl3).trans H4.out) (i := 3) rfl
  have p4 := rowCell ((Hb9.out.block _ hl3).trans H4.out) (i := 4) rfl
  have r0 := rowCell ((Hb9.out.block _ hl5).trans H6.out) (i := 0) rfl
  have r1 := rowCell ((Hb9.out.block _ hl5).trans H6.out) (i := 1) rfl
  go_wp2_with fail
  refine (Hst.out _ Hb9.out).mono ?_
  rintro e w10 ⟨rfl, hb10⟩
  have Hb10 := Lib.hid (Hb9.out.trans (hb10.mono Hb9.out.size))
  have Hb70 := Lib.hid (Hb79.out.trans (hb10.mono Hb79.out.size))
  clear hb10
  clear p0 p1 p2 p3 p4 r0 r1
  go_wp2_with fail
  refine (samePicks_any KA (some ⟨w10.heap.size, 0, none⟩) 1 1 kc 1 [(3, 1)] [(3, 1)] _ (HSk.out.below (Hb70.out.trans ((Below.refl w10.heap.size w10).alloc (Nat.le_refl _) _ |>.mono Hb70.out.size))) ⟨rfl, Nat.le_refl _, by unfold maxLen; omega, Lies.new w10 _ _ 1 _ rfl _ rfl⟩).mono ?_
  rintro e w11 ⟨rfl, hb11⟩
  rw [decide_eq_true rfl]
  have Hb11 : Hid (Below w6.heap.size w6 w11) := Lib.hid (show Below w6.heap.size w6 w11 from (have hq := hb11; have hs := Hb10.out.size; have hp := Hb10.out; (by repeat' (first | with_reducible exact Below.refl _ _ | with_reducible assumption | with_reducible refine below_drewN ?_ _ | with_reducible refine Below.drew ?_ | with_reducible refine Below.alloc ?_ ?_ _ | with_reducible refine Below.setCell ?_ ?_ _ | with_reducible refine Below.trans ?_ (Below.mono (by with_reducible assumption) ?_) | with_reducible refine below_only ?_ (by with_reducible assumption) ?_ ?_ | (simp; done) | (simp; omega) | omega))))
  clear hb11
  go_wp2_with fail
  refine (up_any 1 2 _ (by omega) (by omega) (by omega) (by omega)).mono ?_
  rintro e w12 ⟨rfl, rfl⟩
  go_wp2
  go_ret
  exact ⟨rfl, HB6.out.trans (Hb11.out.mono (by have := HS6.out; omega))⟩
end Go.Proofs.Ytjmbdfoegnfpnaa
