/- DrawMissing: its walk. -/
import Derived.Test.YtbkkmgofjhaaoaaEu
import Derived.Test.YtbkkmgofjhaaoaaHT
namespace Go.Proofs.Ytbkkmgofjhaaoaa
open Go.RowKit
set_option linter.unusedVariables false
set_option linter.unusedSimpArgs false

theorem slF_last (l k : List Int) (x y : Int) (h : k.length = l.length) : slF (l ++ [x]) (k ++ [y]) l.length = sealI (l.length : Int) x y := by
  unfold slF
  have h1 : (l ++ [x]).getD l.length 0 = x := by simp [List.getD_eq_getElem?_getD]
  have h2 : (k ++ [y]).getD l.length 0 = y := by rw [← h]; simp [List.getD_eq_getElem?_getD]
  rw [h1, h2]
theorem slF_old (l k : List Int) (x y : Int) (h : k.length = l.length) {i : Nat} (hi : i < l.length) : slF l k i = slF (l ++ [x]) (k ++ [y]) i := by
  unfold slF
  have h1 : (l ++ [x]).getD i 0 = l.getD i 0 := by simp [List.getD_eq_getElem?_getD, List.getElem?_append_left hi]
  have h2 : (k ++ [y]).getD i 0 = k.getD i 0 := by simp [List.getD_eq_getElem?_getD, List.getElem?_append_left (show i < k.length by omega)]
  rw [h1, h2]
/-- The draw when the first parties have sealed. -/
def cD (n : Nat) (l k : List Int) : Dr := pD n l k (fun i => decide (i < l.length))
theorem cD_step {n : Nat} {l k : List Int} (h1 : 1 ≤ n) (h4 : n ≤ 4) (hk : k.length = l.length) (hl : l.length < n) (x y : Int) : commitD (cD n l k) (l.length : Int) (sealI (l.length : Int) x y) = (cD n (l ++ [x]) (k ++ [y]), 0) := by
  have e : cD n l k = pD n (l ++ [x]) (k ++ [y]) (fun i => decide (i < l.length)) := by
    unfold cD
    exact pD_congr (fun _ _ => rfl) (fun i hi hb => slF_old l k x y hk (by simpa using hb))
  rw [e, ← slF_last l k x y hk, pD_commit _ _ _ h1 h4 l.length hl (by simp)]
  congr 1
  unfold cD
  refine pD_congr (fun i hi => ?_) (fun _ _ _ => rfl)
  rw [List.length_append]
  by_cases hil : i = l.length
  · subst hil; simp [upd]
  · simp [upd, hil]; omega
theorem cD_close {n : Nat} {l k : List Int} (h1 : 1 ≤ n) (h4 : n ≤ 4) (hl : l.length = n) : nextD (cD n l k) 1 = (oD 2 n l k (fun _ => false), 0) := pD_close l k _ h1 h4 (fun i hi => by simp; omega)
theorem lens_pD (n : Nat) (l k : List Int) (R : Nat → Bool) : Lens (pD n l k R) n := by simp [Lens, pD, dF]
theorem lens_oD (st : Int) (n : Nat) (l k : List Int) (R : Nat → Bool) : Lens (oD st n l k R) n := by simp [Lens, oD, dF]

set_option maxHeartbeats 16000000 in
set_option maxRecDepth 100000 in
theorem missingLaw (A : Option Addr) (n0 c : Nat) (zs : List Int) (w : World) (hn : zs.length = n0) (hc : n0 ≤ c) (hm : c ≤ maxLen) (hw : ∀ z ∈ zs, (Lit.int .i64 z).wf = true) (hA : Lies w A n0 (zs.map (.int .i64))) :
    Calls Try.prog 8 #[.slice A n0 c] w fun e w' => e = .returned (.bool true) ∧ Below w.heap.size w w' := by
  obtain ⟨i0, hi, hz0, hz1, hz2⟩ := info_parts Try.infoIn
  obtain ⟨iu0, iuh, iuz0, iuz1, iuz2⟩ := info_parts Try.infoU
  have HNew := Lib.hid (tape_new A n0 c zs w hn hc hm hw hA)
  obtain ⟨r, hr⟩ : ∃ r, zs.take 400 = r := ⟨_, rfl⟩
  rw [hr] at HNew
  clear hw hA hn hm hc hr
  have hnx := nx_bd r (4 - 1 + 1) (by omega)
  obtain ⟨n, hn⟩ : ∃ n : Nat, 1 + nx r (4 - 1 + 1) = (n : Int) := Int.eq_ofNat_of_zero_le (by omega)
  have HRg : Hid (∀ g W, TapeAt W g r → Calls Try.prog 37 #[.pointer (some ⟨g, 0, none⟩), .int .i64 1, .int .i64 4] W (NextPost W g r (n : Int))) := Lib.hid (fun g W h => by have := range_any g r 1 4 W h (by omega) (by omega) (by omega); rw [hn] at this; exact this)
  have hn1 : 1 ≤ n := by omega
  have hn4 : n ≤ 4 := by omega
  obtain ⟨d0, hd0⟩ : ∃ d0, newD n = d0 := ⟨_, rfl⟩
  have HNw : Hid (∀ W, Calls Try.prog 26 #[.int .i64 (n : Int)] W (DrEPost W (d0, 0))) := Lib.hid (fun W => by
    have := newD_any (n : Int) W
    rw [show newE (n : Int) = (newD n, 0) by unfold newE; rw [if_neg (by omega)]; rfl, hd0] at this
    exact this)
  have HD0 : Hid (d0 = cD n [] []) := Lib.hid (by rw [← hd0, pD_new n [] []]; rfl)
  clear hn hnx hd0
  go_enter Try.func8, Try.ntmps8
  go_upto_region 4 with (first
    | (go_at_call 10
       refine (HNew.out _ (Below.refl _ _)).mono ?_
       rintro e1 w1 ⟨g, rfl, hg1, ht1, hb1⟩
       have Ht1 := Lib.hid ht1
       have Hb1 := Lib.hid hb1
       have hgl := ht1.lt
       clear ht1 hb1)
    | (go_at_call 37
       refine (HRg.out g _ Ht1.out).mono ?_
       rintro e w2 ⟨rfl, ht2, hg2⟩
       have Ht2 := Lib.hid ht2
       have Hb2 : Hid (Below w.heap.size w w2) := Lib.hid (below_only Hb1.out hg2 hg1 Hb1.out.size)
       have hs2 := hg2.size
       clear ht2 hg2)
    | (go_at_call 26
       refine (HNw.out _).mono ?_
       rintro e w3 ⟨q, rfl, hown3, hb3⟩
       have Hown3 := Lib.hid hown3
       have Hb3 := Lib.hid hb3
       have hs3 := hb3.size
       clear hown3 hb3)
    | fail)
  have HM0 : Hid (MS w (w3.alloc (.cells #[.int .i64 d0.st, .slice q.a1 d0.se.length q.c1, .slice q.a2 d0.sd.length q.c2, .slice q.a3 d0.sx.length q.c3, .slice q.a4 d0.rv.length q.c4] 26)) g w3.heap.size q d0 (.slice none 0 0) (.slice none 0 0) [] [] r.tail) := Lib.hid (by
    have hsw := Hb2.out.size
    have hba : Below w3.heap.size w3 (w3.alloc (.cells #[.int .i64 d0.st, .slice q.a1 d0.se.length q.c1, .slice q.a2 d0.sd.length q.c2, .slice q.a3 d0.sx.length q.c3, .slice q.a4 d0.rv.length q.c4] 26)) := (Below.refl _ _).alloc (Nat.le_refl _) _
    refine ⟨⟨World.ownsRow_nil _ _ _ _, World.ownsRow_nil _ _ _ _, fun k hk => by simp [Value.ownBlock] at hk, ((Ht2.out.below Hb3.out (by omega)).below hba (by omega)), (Hb2.out.trans (Hb3.out.mono hsw)).trans (hba.mono (by omega)), hg1, by omega, by simp⟩, heap_alloc_new _ _, (Hown3.out.below hba).rebase hsw, Free.young Hown3.out (Nat.le_refl _), fun k hk => by simp [Value.ownBlock] at hk, fun k hk => by simp [Value.ownBlock] at hk, by omega, Free.old Hown3.out (by omega)⟩)
  obtain ⟨B, hB⟩ : ∃ B, w3.heap.size = B := ⟨_, rfl⟩
  rw [hB] at HM0 ⊢
  generalize w3.alloc (.cells #[.int .i64 d0.st, .slice q.a1 d0.se.length q.c1, .slice q.a2 d0.sd.length q.c2, .slice q.a3 d0.sx.length q.c3, .slice q.a4 d0.rv.length q.c4] 26) = w4 at *
  have HSa : Hid (∀ r W, TapeAt W g r → Calls Try.prog 40 #[.pointer (some ⟨g, 0, none⟩)] W fun e w' => e = .returned (.int .u64 (saltI r)) ∧ TapeAt w' g r.tail.tail ∧ W.grownBy w' (some g)) := Lib.hid (fun r W h => salt_any g r W h)
  clear hB Hown3 Hb3 Hb2 Ht2 Ht1 Hb1 HNw HRg HNew hs3 hs2 hgl
  go_wp2
  go_loopw [6, 7, 8, 9] (fun e u v i wr => ∃ (q : DV) (d : Dr) (l k r' : List Int), i = .int .i64 (l.length : Int) ∧ l.length ≤ n ∧ k.length = l.length ∧ e = .int .i64 0 ∧ d = cD n l k ∧ MS w wr g B q d u v l k r') (fun _ _ _ i _ => (n - intOf i).toNat)
  case atStart => exact ⟨q, d0, [], [], _, rfl, by simp, rfl, rfl, HD0.out, HM0.out⟩
  case round =>
    obtain ⟨q, d, l, k, r', rfl, hln, hkl, rfl, hd, hms⟩ := hrel
    have HM := Lib.hid hms
    have Hd := Lib.hid hd
    have Hkl := Lib.hid hkl
    have hk1 : k.length ≤ l.length := by omega
    have hk2 : l.length ≤ k.length := by omega
    clear hd hms hkl HM0 HD0
    by_cases hlt : l.length < n
    · have hlt' : (l.length : Int) < (n : Int) := by omega
      have Hstep : Hid (commitD d (l.length : Int) (sealI (l.length : Int) (saltI r') (saltI r'.tail.tail)) = (cD n (l ++ [saltI r']) (k ++ [saltI r'.tail.tail]), 0)) := Lib.hid (by rw [Hd.out]; exact cD_step hn1 hn4 Hkl.out hlt _ _)
      have Hsm : Hid d.small := Lib.hid (by rw [Hd.out]; exact (lens_pD n l k _).small hn4)
      obtain ⟨sa, hsa⟩ : ∃ x, saltI r' = x := ⟨_, rfl⟩
      obtain ⟨ta, hta⟩ : ∃ x, saltI r'.tail.tail = x := ⟨_, rfl⟩
      have HS1 : Hid (∀ W, TapeAt W g r' → Calls Try.prog 40 #[.pointer (some ⟨g, 0, none⟩)] W fun e w' => e = .returned (.int .u64 sa) ∧ TapeAt w' g r'.tail.tail ∧ W.grownBy w' (some g)) := Lib.hid (fun W h => by have := HSa.out r' W h; rw [hsa] at this; exact this)
      have HS2 : Hid (∀ W, TapeAt W g r'.tail.tail → Calls Try.prog 40 #[.pointer (some ⟨g, 0, none⟩)] W fun e w' => e = .returned (.int .u64 ta) ∧ TapeAt w' g r'.tail.tail.tail.tail ∧ W.grownBy w' (some g)) := Lib.hid (fun W h => by have := HSa.out r'.tail.tail W h; rw [hta] at this; exact this)
      rw [hsa, hta] at Hstep
      clear hsa hta
      go_wp2_with (first
        | (go_at_call 40
           (with_reducible refine (HS1.out _ HM.out.ts.tp).mono ?_)
           rintro e w5 ⟨rfl, ht3, hg3⟩
           replace HM := Lib.hid (HM.out.tape hg3 ht3)
           clear ht3 hg3)
        | (go_at_call 40
           (with_reducible refine (HS2.out _ HM.out.ts.tp).mono ?_)
           rintro e w6 ⟨rfl, ht3, hg3⟩
           replace HM := Lib.hid (HM.out.tape hg3 ht3)
           clear ht3 hg3)
        | (at_builtin
           refine wpList_append_any _ rfl (.tmp 36) (.tmp 39) _ rfl (B + 1) 27 iu0 _ 1 8 Try.underlying23 iuh iuz0 iuz1 iuz2 rfl (by omega) u7 l.length (l.map (.int .u64)) (by rfl)
             (HM.out.alloc _).ts.o1 _ _ 1 1 [.int .u64 sa] rfl ⟨rfl, fun _ => ⟨_, rfl, Nat.lt_succ_self _, fun j u hu => World.news_of_block (heap_alloc_new _ (.cells #[.int .u64 sa] 27)) j u hu⟩⟩ (by simp [Value.oneCell']) (by simp only [maxLen]; omega) (by omega) (HM.out.alloc _).ts.GW ?_
           intro v7 w7 hown7 hg7 hat7
           obtain ⟨bU, cU, rfl, hU1, hU2, hU3, hU4, _, _⟩ := own_at hown7 (by omega)
           replace HM := Lib.hid ((HM.out.alloc _).app1 hown7 hg7 hat7)
           clear hown7 hg7 hat7)
        | (at_builtin
           refine wpList_append_any _ rfl (.tmp 41) (.tmp 44) _ rfl (B + 1) 27 iu0 _ 1 8 Try.underlying23 iuh iuz0 iuz1 iuz2 rfl (by omega) u8 k.length (k.map (.int .u64)) (by rfl)
             (HM.out.alloc _).ts.o2 _ _ 1 1 [.int .u64 ta] rfl ⟨rfl, fun _ => ⟨_, rfl, Nat.lt_succ_self _, fun j u hu => World.news_of_block (heap_alloc_new _ (.cells #[.int .u64 ta] 27)) j u hu⟩⟩ (by simp [Value.oneCell']) (by simp only [maxLen]; omega) (by omega) (HM.out.alloc _).ts.GW ?_
           intro v8 w8 hown8 hg8 hat8
           obtain ⟨bV, cV, rfl, hV1, hV2, hV3, hV4, _, _⟩ := own_at hown8 (by omega)
           replace HM := Lib.hid ((HM.out.alloc _).app2 hown8 hg8 hat8)
           clear hown8 hg8 hat8)
        | fail)
      unfold maxLen at hU4 hV4
      have hix1 : (l.length : Int) < (l.length : Int) + 1 := by omega
      have hix2 : (l.length : Int) < (k.length : Int) + 1 := by omega
      have HX1 := Lib.hid (HM.out.below (Below.drew (Below.refl _ _)))
      have ca : w8.drew.cell? ⟨bU, l.length, none⟩ = some (.int .u64 sa) := own_last HX1.out.ts.o1
      have cb : w8.drew.cell? ⟨bV, l.length, none⟩ = some (.int .u64 ta) := by have := own_last HX1.out.ts.o2; rwa [Hkl.out] at this
      have hbk := DC.of HX1.out.blk; have p0 := hbk.c0; have p1 := hbk.c1; have p2 := hbk.c2; have p3 := hbk.c3; have p4 := hbk.c4; have pf0 := hbk.f 0; have pf1 := hbk.f 1; have pf2 := hbk.f 2; have pf3 := hbk.f 3; have pf4 := hbk.f 4; clear hbk
      have HSl := Lib.hid (fun W => seal_any (l.length : Int) sa ta W)
      generalize sealI (l.length : Int) sa ta = sv at *
      have HC : Hid (∀ W, W = w8.drew → Calls Try.prog 17 #[.agg #[.int .i64 d.st, .slice q.a1 d.se.length q.c1, .slice q.a2 d.sd.length q.c2, .slice q.a3 d.sx.length q.c3, .slice q.a4 d.rv.length q.c4], .int .i64 (l.length : Int), .int .u64 sv] W (DrEPost W (cD n (l ++ [sa]) (k ++ [ta]), 0))) := Lib.hid (fun W hW => by have := commit_any q d (l.length : Int) sv W (by rw [hW]; exact HX1.out.dr.at) Hsm.out; rw [Hstep.out] at this; exact this)
      obtain ⟨d1, hd1⟩ : ∃ x, cD n (l ++ [sa]) (k ++ [ta]) = x := ⟨_, rfl⟩
      rw [hd1] at HC
      have Hd1 := Lib.hid hd1
      clear hd1 HS1 HS2 Hstep
      refine wp_region_held_two (S := (fun w' : World => w'.cell? ⟨B, 0, none⟩ = some (.int .i64 d.st) ∧ w'.cell? ⟨B, 1, none⟩ = some (.slice q.a1 d.se.length q.c1) ∧ w'.cell? ⟨B, 2, none⟩ = some (.slice q.a2 d.sd.length q.c2) ∧ w'.cell? ⟨B, 3, none⟩ = some (.slice q.a3 d.sx.length q.c3) ∧ w'.cell? ⟨B, 4, none⟩ = some (.slice q.a4 d.rv.length q.c4) ∧ w'.cell? ⟨bU, l.length, none⟩ = some (.int .u64 sa) ∧ w'.cell? ⟨bV, l.length, none⟩ = some (.int .u64 ta))) 13 (by kernel_rfl) (by kernel_rfl) ?_
      have hHeld : (fun w' : World => w'.cell? ⟨B, 0, none⟩ = some (.int .i64 d.st) ∧ w'.cell? ⟨B, 1, none⟩ = some (.slice q.a1 d.se.length q.c1) ∧ w'.cell? ⟨B, 2, none⟩ = some (.slice q.a2 d.sd.length q.c2) ∧ w'.cell? ⟨B, 3, none⟩ = some (.slice q.a3 d.sx.length q.c3) ∧ w'.cell? ⟨B, 4, none⟩ = some (.slice q.a4 d.rv.length q.c4) ∧ w'.cell? ⟨bU, l.length, none⟩ = some (.int .u64 sa) ∧ w'.cell? ⟨bV, l.length, none⟩ = some (.int .u64 ta)) w8.drew := ⟨p0, p1, p2, p3, p4, ca, cb⟩
      simp only [List.take_succ_cons, List.take_zero, List.replicate]
      refine wpAnyH_take (i := 0) (v := ?vvm0) rfl (by kernel_rfl) (by kernel_rfl) (by kernel_rfl) (fun _ _ _ h => h) (Or.inl ⟨by rfl, ?hym0⟩) hHeld ?restm0; (case hym0 => (intro w hSw; (try dsimp only at hSw); go_simp; all_goals (with_reducible rfl))); simp only [Act.put, List.setIfInBounds_toArray, List.set_cons_zero, List.set_cons_succ]
      refine wpAnyH_take (i := 1) (v := ?vvm1) rfl (by kernel_rfl) (by kernel_rfl) (by kernel_rfl) (fun _ _ _ h => h) (Or.inl ⟨by rfl, ?hym1⟩) hHeld ?restm1; (case hym1 => (intro w hSw; (try dsimp only at hSw); go_simp; all_goals (with_reducible rfl))); simp only [Act.put, List.setIfInBounds_toArray, List.set_cons_zero, List.set_cons_succ]
      refine wpAnyH_take (i := 2) (v := ?vvm2) rfl (by kernel_rfl) (by kernel_rfl) (by kernel_rfl) (fun _ _ _ h => h) (Or.inl ⟨by rfl, ?hym2⟩) hHeld ?restm2; (case hym2 => (intro w hSw; (try dsimp only at hSw); go_simp; all_goals (with_reducible rfl))); simp only [Act.put, List.setIfInBounds_toArray, List.set_cons_zero, List.set_cons_succ]
      refine wpAnyH_take (i := 3) (v := ?vvm3) rfl (by kernel_rfl) (by kernel_rfl) (by kernel_rfl) (fun _ _ _ h => h) (Or.inl ⟨by rfl, ?hym3⟩) hHeld ?restm3; (case hym3 => (intro w hSw; (try dsimp only at hSw); go_simp; all_goals (with_reducible rfl))); simp only [Act.put, List.setIfInBounds_toArray, List.set_cons_zero, List.set_cons_succ]
      refine wpAnyH_take (i := 4) (v := ?vvm4) rfl (by kernel_rfl) (by kernel_rfl) (by kernel_rfl) (fun _ _ _ h => h) (Or.inl ⟨by rfl, ?hym4⟩) hHeld ?restm4; (case hym4 => (intro w hSw; (try dsimp only at hSw); go_simp; all_goals (with_reducible rfl))); simp only [Act.put, List.setIfInBounds_toArray, List.set_cons_zero, List.set_cons_succ]
      refine wpAnyH_take (i := 5) (v := ?vvm5) rfl (by kernel_rfl) (by kernel_rfl) (by kernel_rfl) (fun _ _ _ h => h) (Or.inl ⟨by rfl, ?hym5⟩) hHeld ?restm5; (case hym5 => (intro w hSw; (try dsimp only at hSw); go_simp; all_goals (with_reducible rfl))); simp only [Act.put, List.setIfInBounds_toArray, List.set_cons_zero, List.set_cons_succ]
      refine wpAnyH_take (i := 6) (v := ?vvm6) rfl (by kernel_rfl) (by kernel_rfl) (by kernel_rfl) (fun _ _ _ h => h) (Or.inl ⟨by rfl, ?hym6⟩) hHeld ?restm6; (case hym6 => (intro w hSw; (try dsimp only at hSw); go_simp; all_goals (with_reducible rfl))); simp only [Act.put, List.setIfInBounds_toArray, List.set_cons_zero, List.set_cons_succ]
      refine wpAnyH_take (i := 7) (v := ?vvm7) rfl (by kernel_rfl) (by kernel_rfl) (by kernel_rfl) (fun _ _ _ h => h) (Or.inl ⟨by rfl, ?hym7⟩) hHeld ?restm7; (case hym7 => (intro w hSw; (try dsimp only at hSw); go_simp; all_goals (with_reducible rfl))); simp only [Act.put, List.setIfInBounds_toArray, List.set_cons_zero, List.set_cons_succ]
      refine wpAnyH_take (i := 8) (v := ?vvm8) rfl (by kernel_rfl) (by kernel_rfl) (by kernel_rfl) (fun _ _ _ h => h) (Or.inl ⟨by rfl, ?hym8⟩) hHeld ?restm8; (case hym8 => (intro w hSw; (try dsimp only at hSw); go_simp; all_goals (with_reducible rfl))); simp only [Act.put, List.setIfInBounds_toArray, List.set_cons_zero, List.set_cons_succ]
      refine wpAnyH_take (i := 9) (v := ?vvm9) rfl (by kernel_rfl) (by kernel_rfl) (by kernel_rfl) (fun _ _ _ h => h) (Or.inl ⟨by rfl, ?hym9⟩) hHeld ?restm9; (case hym9 => (intro w hSw; (try dsimp only at hSw); go_simp; all_goals (with_reducible rfl))); simp only [Act.put, List.setIfInBounds_toArray, List.set_cons_zero, List.set_cons_succ]
      refine wpAnyH_take (i := 10) (v := ?vvm10) rfl (by kernel_rfl) (by kernel_rfl) (by kernel_rfl) (fun _ _ _ h => h) (Or.inl ⟨by rfl, ?hym10⟩) hHeld ?restm10; (case hym10 => (intro w hSw; (try dsimp only at hSw); go_simp; all_goals (with_reducible rfl))); simp only [Act.put, List.setIfInBounds_toArray, List.set_cons_zero, List.set_cons_succ]
      refine wpAnyH_ready (rs := [11]) (by kernel_rfl) (by simp) ?_; refine AllReadyH.cons rfl (fun K hK => ?_) AllReadyH.nil
      go_simp
      go_at_call 33
      refine (HSl.out _).mono ?_
      rintro e w9 ⟨rfl, rfl⟩
      refine hK.out _ _ hHeld (fun hHeld => ?_)
      clear hK K
      simp only [Act.put, List.setIfInBounds_toArray, List.set_cons_zero, List.set_cons_succ]
      refine wpAnyH_ready (rs := [12]) (by kernel_rfl) (by simp) ?_; refine AllReadyH.cons rfl (fun K hK => ?_) AllReadyH.nil
      go_simp
      go_at_call 17
      refine (HC.out _ rfl).mono ?_
      rintro e w10 ⟨q1, rfl, hown, hb3⟩
      have Hown := Lib.hid hown
      have Hb3 := Lib.hid hb3
      have HX3 := Lib.hid (HX1.out.below hb3)
      have ca3 : w10.cell? ⟨bU, l.length, none⟩ = some (.int .u64 sa) := own_last HX3.out.ts.o1
      have cb3 : w10.cell? ⟨bV, l.length, none⟩ = some (.int .u64 ta) := by have := own_last HX3.out.ts.o2; rwa [Hkl.out] at this
      clear hown hb3
      have hbk := DC.of HX3.out.blk; have z0 := hbk.c0; have z1 := hbk.c1; have z2 := hbk.c2; have z3 := hbk.c3; have z4 := hbk.c4; have zf0 := hbk.f 0; have zf1 := hbk.f 1; have zf2 := hbk.f 2; have zf3 := hbk.f 3; have zf4 := hbk.f 4; clear hbk
      refine hK.out _ _ ⟨z0, z1, z2, z3, z4, ca3, cb3⟩ (fun hHeld => ?_)
      clear hK K hHeld
      (try simp only [Act.put, List.setIfInBounds_toArray, List.set_cons_zero, List.set_cons_succ])
      refine wpAnyH_done (by kernel_rfl) ?_ _
      show wpAnyH _ _ _ _ _ _ _ _ _
      have hHeld : (fun _ : World => True) w10 := trivial
      refine wpAnyH_take (i := 13) (v := ?vvm13) rfl (by kernel_rfl) (by kernel_rfl) (by kernel_rfl) (fun _ _ _ h => h) (Or.inl ⟨by rfl, ?hym13⟩) hHeld ?restm13; (case hym13 => (intro w hSw; (try dsimp only at hSw); go_simp; all_goals (with_reducible rfl))); simp only [Act.put, List.setIfInBounds_toArray, List.set_cons_zero, List.set_cons_succ]
      refine wpAnyH_take (i := 14) (v := ?vvm14) rfl (by kernel_rfl) (by kernel_rfl) (by kernel_rfl) (fun _ _ _ h => h) (Or.inl ⟨by rfl, ?hym14⟩) hHeld ?restm14; (case hym14 => (intro w hSw; (try dsimp only at hSw); go_simp; all_goals (with_reducible rfl))); simp only [Act.put, List.setIfInBounds_toArray, List.set_cons_zero, List.set_cons_succ]
      refine wpAnyH_take (i := 15) (v := ?vvm15) rfl (by kernel_rfl) (by kernel_rfl) (by kernel_rfl) (fun _ _ _ h => h) (Or.inl ⟨by rfl, ?hym15⟩) hHeld ?restm15; (case hym15 => (intro w hSw; (try dsimp only at hSw); go_simp; all_goals (with_reducible rfl))); simp only [Act.put, List.setIfInBounds_toArray, List.set_cons_zero, List.set_cons_succ]
      refine wpAnyH_ready (rs := [16]) (by kernel_rfl) (by simp) ?_; refine AllReadyH.cons rfl (fun K hK => ?_) AllReadyH.nil
      go_simp
      go_wp2_with fail
      refine hK.out _ _ trivial (fun hHeld => ?_)
      clear hK K
      (try simp only [Act.put, List.setIfInBounds_toArray, List.set_cons_zero, List.set_cons_succ])
      refine wpAnyH_take (i := 17) (v := ?vvm17) rfl (by kernel_rfl) (by kernel_rfl) (by kernel_rfl) (fun _ _ _ h => h) (Or.inl ⟨by rfl, ?hym17⟩) hHeld ?restm17; (case hym17 => (intro w hSw; (try dsimp only at hSw); go_simp; all_goals (with_reducible rfl))); simp only [Act.put, List.setIfInBounds_toArray, List.set_cons_zero, List.set_cons_succ]
      refine wpAnyH_done (by kernel_rfl) ?_ _
      clear hHeld
      go_wp2
      go_roundw
      case rel => exact ⟨q1, d1, l ++ [sa], k ++ [ta], _, by rw [List.length_append]; go_num, by rw [List.length_append]; simp; omega, by rw [List.length_append, List.length_append, Hkl.out]; rfl, rfl, Hd1.out.symm, HX1.out.put Hb3.out Hown.out⟩
      case measure => simp [intOf]; omega
    · have hle : l.length = n := by omega
      have hlt' : ¬ (l.length : Int) < (n : Int) := by omega
      have Hle := Lib.hid hle
      have hkl2 : k.length = n := by omega
      have Hkl2 := Lib.hid hkl2
      obtain ⟨bU, cU, hue, hU1, hU2, hU3, hU4, _, _⟩ := own_at HM.out.ts.o1 (by omega)
      obtain ⟨bV, cV, hve, hV1, hV2, hV3, hV4, _, _⟩ := own_at HM.out.ts.o2 (by omega)
      rw [hle] at hue
      rw [hkl2] at hve
      subst hue hve
      unfold maxLen at hU4 hV4
      rw [hle] at hlt' ⊢
      have Hsm : Hid d.small := Lib.hid (by rw [Hd.out]; exact (lens_pD n l k _).small hn4)
      have HC : Hid (∀ W, Below wr.heap.size wr W → Calls Try.prog 20 #[.agg #[.int .i64 d.st, .slice q.a1 d.se.length q.c1, .slice q.a2 d.sd.length q.c2, .slice q.a3 d.sx.length q.c3, .slice q.a4 d.rv.length q.c4]] W (DrEPost W (oD 2 n l k (fun _ => false), 0))) := Lib.hid (fun W hW => by have := close_any q d W (HM.out.dr.at.below hW) Hsm.out; rw [Hd.out, cD_close hn1 hn4 Hle.out, ← Hd.out] at this; exact this)
      obtain ⟨d1, hd1⟩ : ∃ x, oD 2 n l k (fun _ => false) = x := ⟨_, rfl⟩
      rw [hd1] at HC
      have Hd1 := Lib.hid hd1
      have Hph : Hid (commitD d1 0 5 = (d1, 61)) := Lib.hid (by rw [← hd1]; exact oD_phase l k _ hn1 hn4 0 5)
      have Hsm1 : Hid d1.small := Lib.hid (by rw [← hd1]; exact (lens_oD 2 n l k _).small hn4)
      clear hd1 hle hkl2 hlt hk1 hk2 hln
      have hbk := DC.of HM.out.blk; have p0 := hbk.c0; have p1 := hbk.c1; have p2 := hbk.c2; have p3 := hbk.c3; have p4 := hbk.c4; have pf0 := hbk.f 0; have pf1 := hbk.f 1; have pf2 := hbk.f 2; have pf3 := hbk.f 3; have pf4 := hbk.f 4; clear hbk
      go_upto_region 13 with (first
        | (go_at_call 20
           refine (HC.out _ (Below.refl _ _)).mono ?_
           rintro e w5 ⟨q1, rfl, hown, hb3⟩
           have HX4 := Lib.hid (HM.out.put hb3 hown)
           have hbk := DC.of (HM.out.below hb3).blk; have z0 := hbk.c0; have z1 := hbk.c1; have z2 := hbk.c2; have z3 := hbk.c3; have z4 := hbk.c4; have zf0 := hbk.f 0; have zf1 := hbk.f 1; have zf2 := hbk.f 2; have zf3 := hbk.f 3; have zf4 := hbk.f 4; clear hbk
           clear hown hb3)
        | fail)
      clear p0 p1 p2 p3 p4 pf0 pf1 pf2 pf3 pf4
      clear z0 z1 z2 z3 z4 zf0 zf1 zf2 zf3 zf4
      generalize (((((w5.setCell ⟨B, 0, none⟩ (.int .i64 d1.st)).setCell ⟨B, 1, none⟩ (.slice q1.a1 d1.se.length q1.c1)).setCell ⟨B, 2, none⟩ (.slice q1.a2 d1.sd.length q1.c2)).setCell ⟨B, 3, none⟩ (.slice q1.a3 d1.sx.length q1.c3)).setCell ⟨B, 4, none⟩ (.slice q1.a4 d1.rv.length q1.c4)) = w6 at *
      clear HM HC
      have HCm : Hid (Calls Try.prog 17 #[.agg #[.int .i64 d1.st, .slice q1.a1 d1.se.length q1.c1, .slice q1.a2 d1.sd.length q1.c2, .slice q1.a3 d1.sx.length q1.c3, .slice q1.a4 d1.rv.length q1.c4], .int .i64 0, .int .u64 5] w6 (DrEPost w6 (d1, 61))) := Lib.hid (by have := commit_any q1 d1 0 5 w6 HX4.out.dr.at Hsm1.out; rw [Hph.out] at this; exact this)
      have hbk := DC.of HX4.out.blk; have p0 := hbk.c0; have p1 := hbk.c1; have p2 := hbk.c2; have p3 := hbk.c3; have p4 := hbk.c4; have pf0 := hbk.f 0; have pf1 := hbk.f 1; have pf2 := hbk.f 2; have pf3 := hbk.f 3; have pf4 := hbk.f 4; clear hbk
      go_upto_region 16 with (first
        | (go_at_call 17
           refine HCm.out.mono ?_
           rintro e w7 ⟨q2, rfl, hown, hb3⟩
           have HX5 := Lib.hid (HX4.out.below (hb3.trans (Below.alloc (Below.refl w6.heap.size w7) hb3.size (.cells #[.int .i64 d1.st, .slice q2.a1 d1.se.length q2.c1, .slice q2.a2 d1.sd.length q2.c2, .slice q2.a3 d1.sx.length q2.c3, .slice q2.a4 d1.rv.length q2.c4] 26))))
           clear hown hb3)
        | fail)
      clear p0 p1 p2 p3 p4 pf0 pf1 pf2 pf3 pf4
      generalize w7.alloc (.cells #[.int .i64 d1.st, .slice q2.a1 d1.se.length q2.c1, .slice q2.a2 d1.sd.length q2.c2, .slice q2.a3 d1.sx.length q2.c3, .slice q2.a4 d1.rv.length q2.c4] 26) = w8 at *
      clear HX4 HCm Hph Hsm1
      have HW0 : Hid (MW w w8 g B w8.heap.size q1 d1 (.slice (some ⟨bU, 0, none⟩) n cU) (.slice (some ⟨bV, 0, none⟩) n cV) (.slice none 0 0) l k [] r') := Lib.hid ⟨HX5.out, World.ownsRow_nil _ _ _ _, fun x hx => by simp [Value.ownBlock] at hx, fun x hx => (HX5.out.ts.o1.lt x hx).2, fun x hx => (HX5.out.ts.o2.lt x hx).2, HX5.out.lt, Nat.le_refl _⟩
      clear HX5
      go_wp2
      go_loopw [6, 12, 13, 14] (fun e a y i wr => ∃ (j : Nat) (R : Nat → Bool) (q : DV) (d : Dr) (m r' : List Int), j ≤ n ∧ i = .int .i64 (j : Int) ∧ e = .int .i64 0 ∧ a = .int .u64 (allF l R j) ∧ d = oD 2 n l k R ∧ (∀ i, j ≤ i → R i = false) ∧ m = missF R j ∧ MW w wr g B w8.heap.size q d (.slice (some ⟨bU, 0, none⟩) n cU) (.slice (some ⟨bV, 0, none⟩) n cV) y l k m r') (fun _ _ _ i _ => (n - intOf i).toNat)
      case atStart => exact ⟨0, fun _ => false, q1, d1, [], r', Nat.zero_le _, rfl, rfl, rfl, Hd1.out.symm, fun _ _ => rfl, rfl, HW0.out⟩
      case round =>
        obtain ⟨j, R, q, d, m, r', hj, rfl, rfl, rfl, hd, hR, hm, hmw⟩ := hrel
        have HM := Lib.hid hmw
        have Hd := Lib.hid hd
        have HR := Lib.hid hR
        have Hm := Lib.hid hm
        have hml : m.length ≤ j := by rw [hm]; exact missF_len R j
        obtain ⟨all, hall⟩ : ∃ x, allF l R j = x := ⟨_, rfl⟩
        have Hall := Lib.hid hall
        have Hsm : Hid d.small := Lib.hid (by rw [hd]; exact (lens_oD 2 n l k _).small hn4)
        rw [hall]
        clear hmw hd hR hm hall HW0 Hd1
        by_cases hjn : j < n
        · have hjn' : (j : Int) < (n : Int) := by omega
          have HO := Lib.hid (one_any g r' 2 wr HM.out.ms.ts.tp (by omega) (by omega))
          obtain ⟨x, hx⟩ : ∃ x, oneB r' 2 = x := ⟨_, rfl⟩
          rw [hx] at HO
          clear hx
          cases x with
          | true =>
            have Hm2 : Hid (missF R (j + 1) = m ++ [(j : Int)]) := Lib.hid (by rw [missF_succ, HR.out j (Nat.le_refl _), Hm.out]; rfl)
            have Ha2 : Hid (allF l R (j + 1) = all) := Lib.hid (by rw [allF_succ, HR.out j (Nat.le_refl _), if_neg (by simp), x64_zero _ (allF_bd l R j).1 (allF_bd l R j).2, Hall.out])
            go_wp2_with (first
              | (go_at_call 42
                 refine HO.out.mono ?_
                 rintro e w9 ⟨rfl, ht3, hg3⟩
                 replace HM := Lib.hid (HM.out.tape hg3 ht3)
                 have hsH := HM.out.HW
                 clear ht3 hg3)
              | (at_builtin
                 refine wpList_append_any _ rfl (.tmp 87) (.tmp 89) _ rfl w8.heap.size 3 i0 _ 1 8 Try.underlying22 hi hz0 hz1 hz2 rfl (by omega) u13 m.length (m.map (.int .i64)) (by rfl)
                   (HM.out.alloc _).ow _ _ 1 1 [.int .i64 (j : Int)] rfl ⟨rfl, fun _ => ⟨_, rfl, Nat.lt_succ_self _, fun x u hu => World.news_of_block (heap_alloc_new _ (.cells #[.int .i64 (j : Int)] 3)) x u hu⟩⟩ (by simp [Value.oneCell']) (by simp only [maxLen]; omega) (by omega) (by simp; omega) ?_
                 intro v7 w10 hown7 hg7 hat7
                 replace HM := Lib.hid ((HM.out.alloc _).app hown7 hg7 hat7)
                 clear hown7 hg7 hat7)
              | fail)
            go_roundw
            case rel => exact ⟨j + 1, R, q, d, m ++ [(j : Int)], _, by omega, by go_num, rfl, by rw [Ha2.out], Hd.out, fun i hi => HR.out i (by omega), Hm2.out.symm, HM.out⟩
            case measure => simp [intOf]; omega
          | false =>
            have hjl : j < l.length := by rw [Hle.out]; exact hjn
            have hjk : j < k.length := by rw [Hkl2.out]; exact hjn
            have Hup : Hid (∀ i, i < j → R i = upd R j true i) := Lib.hid (fun i hi => (upd_ne R true (by omega)).symm)
            have Hm2 : Hid (missF (upd R j true) (j + 1) = m) := Lib.hid (by rw [missF_succ, upd_same, if_pos rfl, ← missF_congr Hup.out, Hm.out])
            have Ha2 : Hid (allF l (upd R j true) (j + 1) = x64 all (l.getD j 0)) := Lib.hid (by rw [allF_succ, upd_same, if_pos rfl, ← allF_congr Hup.out, Hall.out])
            have Hrv : Hid (revealD d (j : Int) (l.getD j 0) (k.getD j 0) = (oD 2 n l k (upd R j true), 0)) := Lib.hid (by rw [Hd.out]; exact oD_reveal l k R hn1 hn4 j hjn (HR.out j (Nat.le_refl _)))
            have HcU : Hid (∀ W y' m' r'', MW w W g B w8.heap.size q d (.slice (some ⟨bU, 0, none⟩) n cU) (.slice (some ⟨bV, 0, none⟩) n cV) y' l k m' r'' → W.cell? ⟨bU, j, none⟩ = some (.int .u64 (l.getD j 0)) ∧ W.cell? ⟨bV, j, none⟩ = some (.int .u64 (k.getD j 0))) := Lib.hid (fun W y' m' r'' h => ⟨own_nth h.ms.ts.o1 hjl, own_nth h.ms.ts.o2 hjk⟩)
            obtain ⟨sa, hsa⟩ : ∃ x, l.getD j 0 = x := ⟨_, rfl⟩
            obtain ⟨ta, hta⟩ : ∃ x, k.getD j 0 = x := ⟨_, rfl⟩
            rw [hsa] at Ha2
            rw [hsa, hta] at Hrv
            simp only [hsa, hta] at HcU
            have Hx : Hid (bits BinOp.xor IntKind.u64 all sa = x64 all sa) := Lib.hid rfl
            clear hsa hta hjl hjk
            obtain ⟨d2, hd2⟩ : ∃ x, oD 2 n l k (upd R j true) = x := ⟨_, rfl⟩
            rw [hd2] at Hrv
            have Hd2 := Lib.hid hd2
            clear hd2
            go_wp2_with (first
              | (go_at_call 42
                 refine HO.out.mono ?_
                 rintro e w9 ⟨rfl, ht3, hg3⟩
                 replace HM := Lib.hid (HM.out.tape hg3 ht3)
                 obtain ⟨ca0, cb0⟩ := HcU.out _ _ _ _ HM.out
                 clear ht3 hg3)
              | fail)
            have HX1 := Lib.hid (HM.out.below (Below.drew (Below.refl _ _)))
            obtain ⟨ca, cb⟩ := HcU.out _ _ _ _ HX1.out
            have hbk := DC.of HX1.out.ms.blk; have p0 := hbk.c0; have p1 := hbk.c1; have p2 := hbk.c2; have p3 := hbk.c3; have p4 := hbk.c4; have pf0 := hbk.f 0; have pf1 := hbk.f 1; have pf2 := hbk.f 2; have pf3 := hbk.f 3; have pf4 := hbk.f 4; clear hbk
            have HC : Hid (∀ W, W = w9.drew → Calls Try.prog 22 #[.agg #[.int .i64 d.st, .slice q.a1 d.se.length q.c1, .slice q.a2 d.sd.length q.c2, .slice q.a3 d.sx.length q.c3, .slice q.a4 d.rv.length q.c4], .int .i64 (j : Int), .int .u64 sa, .int .u64 ta] W (DrEPost W (d2, 0))) := Lib.hid (fun W hW => by have := reveal_any q d (j : Int) sa ta W (by rw [hW]; exact HX1.out.ms.dr.at) Hsm.out; rw [Hrv.out] at this; exact this)
            clear ca0 cb0 HO
            refine wp_region_held_two (S := (fun w' : World => w'.cell? ⟨B, 0, none⟩ = some (.int .i64 d.st) ∧ w'.cell? ⟨B, 1, none⟩ = some (.slice q.a1 d.se.length q.c1) ∧ w'.cell? ⟨B, 2, none⟩ = some (.slice q.a2 d.sd.length q.c2) ∧ w'.cell? ⟨B, 3, none⟩ = some (.slice q.a3 d.sx.length q.c3) ∧ w'.cell? ⟨B, 4, none⟩ = some (.slice q.a4 d.rv.length q.c4) ∧ w'.cell? ⟨bU, j, none⟩ = some (.int .u64 sa) ∧ w'.cell? ⟨bV, j, none⟩ = some (.int .u64 ta))) 11 (by kernel_rfl) (by kernel_rfl) ?_
            have hHeld : (fun w' : World => w'.cell? ⟨B, 0, none⟩ = some (.int .i64 d.st) ∧ w'.cell? ⟨B, 1, none⟩ = some (.slice q.a1 d.se.length q.c1) ∧ w'.cell? ⟨B, 2, none⟩ = some (.slice q.a2 d.sd.length q.c2) ∧ w'.cell? ⟨B, 3, none⟩ = some (.slice q.a3 d.sx.length q.c3) ∧ w'.cell? ⟨B, 4, none⟩ = some (.slice q.a4 d.rv.length q.c4) ∧ w'.cell? ⟨bU, j, none⟩ = some (.int .u64 sa) ∧ w'.cell? ⟨bV, j, none⟩ = some (.int .u64 ta)) w9.drew := ⟨p0, p1, p2, p3, p4, ca, cb⟩
            simp only [List.take_succ_cons, List.take_zero, List.replicate]
            refine wpAnyH_take (i := 0) (v := ?vvn0) rfl (by kernel_rfl) (by kernel_rfl) (by kernel_rfl) (fun _ _ _ h => h) (Or.inl ⟨by rfl, ?hyn0⟩) hHeld ?restn0; (case hyn0 => (intro w hSw; (try dsimp only at hSw); go_simp; all_goals (with_reducible rfl))); simp only [Act.put, List.setIfInBounds_toArray, List.set_cons_zero, List.set_cons_succ]
            refine wpAnyH_take (i := 1) (v := ?vvn1) rfl (by kernel_rfl) (by kernel_rfl) (by kernel_rfl) (fun _ _ _ h => h) (Or.inl ⟨by rfl, ?hyn1⟩) hHeld ?restn1; (case hyn1 => (intro w hSw; (try dsimp only at hSw); go_simp; all_goals (with_reducible rfl))); simp only [Act.put, List.setIfInBounds_toArray, List.set_cons_zero, List.set_cons_succ]
            refine wpAnyH_take (i := 2) (v := ?vvn2) rfl (by kernel_rfl) (by kernel_rfl) (by kernel_rfl) (fun _ _ _ h => h) (Or.inl ⟨by rfl, ?hyn2⟩) hHeld ?restn2; (case hyn2 => (intro w hSw; (try dsimp only at hSw); go_simp; all_goals (with_reducible rfl))); simp only [Act.put, List.setIfInBounds_toArray, List.set_cons_zero, List.set_cons_succ]
            refine wpAnyH_take (i := 3) (v := ?vvn3) rfl (by kernel_rfl) (by kernel_rfl) (by kernel_rfl) (fun _ _ _ h => h) (Or.inl ⟨by rfl, ?hyn3⟩) hHeld ?restn3; (case hyn3 => (intro w hSw; (try dsimp only at hSw); go_simp; all_goals (with_reducible rfl))); simp only [Act.put, List.setIfInBounds_toArray, List.set_cons_zero, List.set_cons_succ]
            refine wpAnyH_take (i := 4) (v := ?vvn4) rfl (by kernel_rfl) (by kernel_rfl) (by kernel_rfl) (fun _ _ _ h => h) (Or.inl ⟨by rfl, ?hyn4⟩) hHeld ?restn4; (case hyn4 => (intro w hSw; (try dsimp only at hSw); go_simp; all_goals (with_reducible rfl))); simp only [Act.put, List.setIfInBounds_toArray, List.set_cons_zero, List.set_cons_succ]
            refine wpAnyH_take (i := 5) (v := ?vvn5) rfl (by kernel_rfl) (by kernel_rfl) (by kernel_rfl) (fun _ _ _ h => h) (Or.inl ⟨by rfl, ?hyn5⟩) hHeld ?restn5; (case hyn5 => (intro w hSw; (try dsimp only at hSw); go_simp; all_goals (with_reducible rfl))); simp only [Act.put, List.setIfInBounds_toArray, List.set_cons_zero, List.set_cons_succ]
            refine wpAnyH_take (i := 6) (v := ?vvn6) rfl (by kernel_rfl) (by kernel_rfl) (by kernel_rfl) (fun _ _ _ h => h) (Or.inl ⟨by rfl, ?hyn6⟩) hHeld ?restn6; (case hyn6 => (intro w hSw; (try dsimp only at hSw); go_simp; all_goals (with_reducible rfl))); simp only [Act.put, List.setIfInBounds_toArray, List.set_cons_zero, List.set_cons_succ]
            refine wpAnyH_take (i := 7) (v := ?vvn7) rfl (by kernel_rfl) (by kernel_rfl) (by kernel_rfl) (fun _ _ _ h => h) (Or.inl ⟨by rfl, ?hyn7⟩) hHeld ?restn7; (case hyn7 => (intro w hSw; (try dsimp only at hSw); go_simp; all_goals (with_reducible rfl))); simp only [Act.put, List.setIfInBounds_toArray, List.set_cons_zero, List.set_cons_succ]
            refine wpAnyH_take (i := 8) (v := ?vvn8) rfl (by kernel_rfl) (by kernel_rfl) (by kernel_rfl) (fun _ _ _ h => h) (Or.inl ⟨by rfl, ?hyn8⟩) hHeld ?restn8; (case hyn8 => (intro w hSw; (try dsimp only at hSw); go_simp; all_goals (with_reducible rfl))); simp only [Act.put, List.setIfInBounds_toArray, List.set_cons_zero, List.set_cons_succ]
            refine wpAnyH_take (i := 9) (v := ?vvn9) rfl (by kernel_rfl) (by kernel_rfl) (by kernel_rfl) (fun _ _ _ h => h) (Or.inl ⟨by rfl, ?hyn9⟩) hHeld ?restn9; (case hyn9 => (intro w hSw; (try dsimp only at hSw); go_simp; all_goals (with_reducible rfl))); simp only [Act.put, List.setIfInBounds_toArray, List.set_cons_zero, List.set_cons_succ]
            refine wpAnyH_ready (rs := [10]) (by kernel_rfl) (by simp) ?_; refine AllReadyH.cons rfl (fun K hK => ?_) AllReadyH.nil
            go_simp
            go_at_call 22
            refine (HC.out _ rfl).mono ?_
            rintro e w10 ⟨q1, rfl, hown, hb3⟩
            have Hown := Lib.hid hown
            have Hb3 := Lib.hid hb3
            have HX3 := Lib.hid (HX1.out.below hb3)
            obtain ⟨ca3, cb3⟩ := HcU.out _ _ _ _ HX3.out
            clear hown hb3
            have hbk := DC.of HX3.out.ms.blk; have z0 := hbk.c0; have z1 := hbk.c1; have z2 := hbk.c2; have z3 := hbk.c3; have z4 := hbk.c4; have zf0 := hbk.f 0; have zf1 := hbk.f 1; have zf2 := hbk.f 2; have zf3 := hbk.f 3; have zf4 := hbk.f 4; clear hbk
            refine hK.out _ _ ⟨z0, z1, z2, z3, z4, ca3, cb3⟩ (fun hHeld => ?_)
            clear hK K hHeld
            (try simp only [Act.put, List.setIfInBounds_toArray, List.set_cons_zero, List.set_cons_succ])
            refine wpAnyH_done (by kernel_rfl) ?_ _
            show wpAnyH _ _ _ _ _ _ _ _ _
            have hHeld : (fun _ : World => True) w10 := trivial
            refine wpAnyH_take (i := 11) (v := ?vvn11) rfl (by kernel_rfl) (by kernel_rfl) (by kernel_rfl) (fun _ _ _ h => h) (Or.inl ⟨by rfl, ?hyn11⟩) hHeld ?restn11; (case hyn11 => (intro w hSw; (try dsimp only at hSw); go_simp; all_goals (with_reducible rfl))); simp only [Act.put, List.setIfInBounds_toArray, List.set_cons_zero, List.set_cons_succ]
            refine wpAnyH_take (i := 12) (v := ?vvn12) rfl (by kernel_rfl) (by kernel_rfl) (by kernel_rfl) (fun _ _ _ h => h) (Or.inl ⟨by rfl, ?hyn12⟩) hHeld ?restn12; (case hyn12 => (intro w hSw; (try dsimp only at hSw); go_simp; all_goals (with_reducible rfl))); simp only [Act.put, List.setIfInBounds_toArray, List.set_cons_zero, List.set_cons_succ]
            refine wpAnyH_take (i := 13) (v := ?vvn13) rfl (by kernel_rfl) (by kernel_rfl) (by kernel_rfl) (fun _ _ _ h => h) (Or.inl ⟨by rfl, ?hyn13⟩) hHeld ?restn13; (case hyn13 => (intro w hSw; (try dsimp only at hSw); go_simp; all_goals (with_reducible rfl))); simp only [Act.put, List.setIfInBounds_toArray, List.set_cons_zero, List.set_cons_succ]
            refine wpAnyH_ready (rs := [14]) (by kernel_rfl) (by simp) ?_; refine AllReadyH.cons rfl (fun K hK => ?_) AllReadyH.nil
            go_simp
            go_wp2_with fail
            refine hK.out _ _ trivial (fun hHeld => ?_)
            clear hK K
            (try simp only [Act.put, List.setIfInBounds_toArray, List.set_cons_zero, List.set_cons_succ])
            refine wpAnyH_take (i := 15) (v := ?vvn15) rfl (by kernel_rfl) (by kernel_rfl) (by kernel_rfl) (fun _ _ _ h => h) (Or.inl ⟨by rfl, ?hyn15⟩) hHeld ?restn15; (case hyn15 => (intro w hSw; (try dsimp only at hSw); go_simp; all_goals (with_reducible rfl))); simp only [Act.put, List.setIfInBounds_toArray, List.set_cons_zero, List.set_cons_succ]
            refine wpAnyH_done (by kernel_rfl) ?_ _
            clear hHeld
            go_wp2
            go_roundw
            case rel => exact ⟨j + 1, upd R j true, q1, d2, m, _, by omega, by go_num, rfl, by rw [Ha2.out]; rfl, Hd2.out.symm, fun i hi => by rw [upd_ne R true (by omega)]; exact HR.out i (by omega), Hm2.out.symm, HX1.out.put Hb3.out Hown.out⟩
            case measure => simp [intOf]; omega
        · have hjn2 : j = n := by omega
          have hjn' : ¬ (j : Int) < (n : Int) := by omega
          have Hall2 : Hid (allF l R n = all) := Lib.hid (by rw [← hjn2]; exact Hall.out)
          have Hm2 : Hid (missF R n = m) := Lib.hid (by rw [← hjn2]; exact Hm.out.symm)
          have HC : Hid (∀ W, Below wr.heap.size wr W → Calls Try.prog 24 #[.agg #[.int .i64 d.st, .slice q.a1 d.se.length q.c1, .slice q.a2 d.sd.length q.c2, .slice q.a3 d.sx.length q.c3, .slice q.a4 d.rv.length q.c4]] W (DrEPost W (oD 3 n l k R, 0))) := Lib.hid (fun W hW => by have := finish_any q d W (HM.out.ms.dr.at.below hW) Hsm.out; rw [Hd.out, oD_finish l k R hn1 hn4, ← Hd.out] at this; exact this)
          obtain ⟨d2, hd2⟩ : ∃ x, oD 3 n l k R = x := ⟨_, rfl⟩
          rw [hd2] at HC
          obtain ⟨mx, hmx⟩ : ∃ x, mixI all = x := ⟨_, rfl⟩
          have Hsd : Hid (seedP d2 = (mx, m, 0)) := Lib.hid (by rw [← hd2, oD_seed l k R hn1 hn4, Hall2.out, Hm2.out, hmx])
          have HMx := Lib.hid (fun W => mix_any all W)
          rw [hmx] at HMx
          clear hd2 hmx hjn2
          have hbk := DC.of HM.out.ms.blk; have p0 := hbk.c0; have p1 := hbk.c1; have p2 := hbk.c2; have p3 := hbk.c3; have p4 := hbk.c4; have pf0 := hbk.f 0; have pf1 := hbk.f 1; have pf2 := hbk.f 2; have pf3 := hbk.f 3; have pf4 := hbk.f 4; clear hbk
          go_upto_region 28 with (first
            | (go_at_call 24
               refine (HC.out _ (Below.refl _ _)).mono ?_
               rintro e w9 ⟨q2, rfl, hown, hb3⟩
               have HX4 := Lib.hid (HM.out.put hb3 hown)
               have hbk := DC.of (HM.out.below hb3).ms.blk; have z0 := hbk.c0; have z1 := hbk.c1; have z2 := hbk.c2; have z3 := hbk.c3; have z4 := hbk.c4; have zf0 := hbk.f 0; have zf1 := hbk.f 1; have zf2 := hbk.f 2; have zf3 := hbk.f 3; have zf4 := hbk.f 4; clear hbk
               clear hown hb3)
            | fail)
          clear p0 p1 p2 p3 p4 pf0 pf1 pf2 pf3 pf4
          clear z0 z1 z2 z3 z4 zf0 zf1 zf2 zf3 zf4
          generalize (((((w9.setCell ⟨B, 0, none⟩ (.int .i64 d2.st)).setCell ⟨B, 1, none⟩ (.slice q2.a1 d2.se.length q2.c1)).setCell ⟨B, 2, none⟩ (.slice q2.a2 d2.sd.length q2.c2)).setCell ⟨B, 3, none⟩ (.slice q2.a3 d2.sx.length q2.c3)).setCell ⟨B, 4, none⟩ (.slice q2.a4 d2.rv.length q2.c4)) = wa at *
          clear HM HC
          obtain ⟨Y, yc, rfl, hY⟩ := Sl.ints_own HX4.out.ow
          have HY := Lib.hid hY
          have Hbel := Lib.hid HX4.out.ms.ts.bel
          have HSd : Hid (Calls Try.prog 28 #[.agg #[.int .i64 d2.st, .slice q2.a1 d2.se.length q2.c1, .slice q2.a2 d2.sd.length q2.c2, .slice q2.a3 d2.sx.length q2.c3, .slice q2.a4 d2.rv.length q2.c4]] wa (SeedPost wa (mx, m, 0))) := Lib.hid (by have := seed_any q2 d2 wa HX4.out.ms.dr.at; rw [Hsd.out] at this; exact this)
          have hbk := DC.of HX4.out.ms.blk; have p0 := hbk.c0; have p1 := hbk.c1; have p2 := hbk.c2; have p3 := hbk.c3; have p4 := hbk.c4; have pf0 := hbk.f 0; have pf1 := hbk.f 1; have pf2 := hbk.f 2; have pf3 := hbk.f 3; have pf4 := hbk.f 4; clear hbk
          clear hY HX4
          go_wp2_with (first
            | (go_at_call 28
               refine HSd.out.mono ?_
               rintro e wb ⟨vb, rfl, hownb, hbb⟩
               obtain ⟨E, ec, rfl, hE⟩ := Sl.ints_own hownb
               have HE := Lib.hid hE
               have HYb := Lib.hid (HY.out.below hbb)
               have Hbb := Lib.hid (Hbel.out.trans (hbb.mono Hbel.out.size))
               clear hownb hbb hE)
            | (go_at_call 31; refine (HMx.out _).mono ?_; rintro e wc ⟨rfl, rfl⟩)
            | (go_at_call 30
               refine (ints_same E Y ec yc m _ HE.out HYb.out).mono ?_
               rintro e wd ⟨rfl, hbd⟩
               have Hbd := Lib.hid (Hbb.out.trans (hbd.mono Hbb.out.size))
               clear hbd)
            | (go_at_call 9; refine (awake_any _).mono ?_; rintro e we ⟨rfl, hbe⟩; have Hbe := Lib.hid (Hbd.out.trans (hbe.mono Hbd.out.size)); clear hbe)
            | fail)
          go_ret
          exact ⟨rfl, Hbe.out⟩
end Go.Proofs.Ytbkkmgofjhaaoaa
