/- DrawOrder: its walk. -/
import Derived.Test.YtbkkmgofjhaaoaaEv
import Derived.Test.YtbkkmgofjhaaoaaEm
namespace Go.Proofs.Ytbkkmgofjhaaoaa
open Go.RowKit
set_option linter.unusedVariables false
set_option linter.unusedSimpArgs false

/-- Those before j, and those behind n - j. -/
def upB (j : Nat) : Nat → Bool := fun i => decide (i < j)
def dnB (n j : Nat) : Nat → Bool := fun i => decide (n ≤ i + j)
theorem upB_succ {j i : Nat} : upd (upB j) j true i = upB (j + 1) i := by
  by_cases h : i = j
  · subst h; simp [upd, upB]
  · simp [upd, upB, h]; omega
theorem dnB_succ {n j k i : Nat} (hk : k + j + 1 = n) : upd (dnB n j) k true i = dnB n (j + 1) i := by
  by_cases h : i = k
  · subst h; simp [upd, dnB]; omega
  · simp [upd, dnB, h]; omega
theorem ord_x {n : Nat} {l k : List Int} (h1 : 1 ≤ n) (h4 : n ≤ 4) {j : Nat} (hj : j < n) : commitD (pD n l k (upB j)) (j : Int) (slF l k j) = (pD n l k (upB (j + 1)), 0) := by
  rw [pD_commit l k (upB j) h1 h4 j hj (by simp [upB])]
  congr 1
  exact pD_congr (fun i _ => upB_succ) (fun _ _ _ => rfl)
theorem ord_y {n : Nat} {l k : List Int} (h1 : 1 ≤ n) (h4 : n ≤ 4) {j p : Nat} (hp : p + j + 1 = n) : commitD (pD n l k (dnB n j)) (p : Int) (slF l k p) = (pD n l k (dnB n (j + 1)), 0) := by
  rw [pD_commit l k (dnB n j) h1 h4 p (by omega) (by simp [dnB]; omega)]
  congr 1
  exact pD_congr (fun i _ => dnB_succ hp) (fun _ _ _ => rfl)
theorem rev_x {n : Nat} {l k : List Int} (h1 : 1 ≤ n) (h4 : n ≤ 4) {j : Nat} (hj : j < n) : revealD (oD 2 n l k (upB j)) (j : Int) (l.getD j 0) (k.getD j 0) = (oD 2 n l k (upB (j + 1)), 0) := by
  rw [oD_reveal l k (upB j) h1 h4 j hj (by simp [upB])]
  congr 1
  exact oD_congr (fun i _ => upB_succ)
theorem rev_y {n : Nat} {l k : List Int} (h1 : 1 ≤ n) (h4 : n ≤ 4) {j p : Nat} (hp : p + j + 1 = n) : revealD (oD 2 n l k (dnB n j)) (p : Int) (l.getD p 0) (k.getD p 0) = (oD 2 n l k (dnB n (j + 1)), 0) := by
  rw [oD_reveal l k (dnB n j) h1 h4 p (by omega) (by simp [dnB]; omega)]
  congr 1
  exact oD_congr (fun i _ => dnB_succ hp)
theorem close_x {n : Nat} {l k : List Int} (h1 : 1 ≤ n) (h4 : n ≤ 4) : nextD (pD n l k (upB n)) 1 = (oD 2 n l k (upB 0), 0) := by
  rw [pD_close l k _ h1 h4 (fun i hi => by simp [upB, hi])]
  congr 1
theorem close_y {n : Nat} {l k : List Int} (h1 : 1 ≤ n) (h4 : n ≤ 4) : nextD (pD n l k (dnB n n)) 1 = (oD 2 n l k (dnB n 0), 0) := by
  rw [pD_close l k _ h1 h4 (fun i hi => by simp [dnB])]
  congr 1
  exact oD_congr (fun i hi => by simp [dnB]; omega)
theorem both_done (n : Nat) (l k : List Int) : oD 2 n l k (upB n) = oD 2 n l k (dnB n n) := oD_congr (fun i hi => by simp [upB, dnB, hi])

set_option maxHeartbeats 32000000 in
set_option maxRecDepth 100000 in
theorem orderLaw (A : Option Addr) (n0 c : Nat) (zs : List Int) (o : Int) (w : World) (hn : zs.length = n0) (hc : n0 ≤ c) (hm : c ≤ maxLen) (hw : ∀ z ∈ zs, (Lit.int .i64 z).wf = true) (hA : Lies w A n0 (zs.map (.int .i64))) :
    Calls Try.prog 6 #[.slice A n0 c, .int .u64 o] w fun e w' => e = .returned (.bool true) ∧ Below w.heap.size w w' := by
  obtain ⟨i0, hi, hz0, hz1, hz2⟩ := info_parts Try.infoIn
  obtain ⟨iu0, iuh, iuz0, iuz1, iuz2⟩ := info_parts Try.infoU
  have HNew := Lib.hid (tape_new A n0 c zs w hn hc hm hw hA)
  obtain ⟨r, hr⟩ : ∃ r, zs.take 400 = r := ⟨_, rfl⟩
  rw [hr] at HNew
  clear hw hA hn hm hc hr
  have hnx := nx_bd r (4 - 1 + 1) (by omega)
  obtain ⟨n, hn⟩ : ∃ n : Nat, 1 + nx r (4 - 1 + 1) = (n : Int) := Int.eq_ofNat_of_zero_le (by omega)
  have HRg : Hid (∀ g W, TapeAt W g r → Calls Try.prog 37 #[.pointer (some ⟨g, 0, none⟩), .int .i64 1, .int .i64 4] W (NextPost W g r (n : Int))) := Lib.hid (fun g W h => by have := range_any g r 1 4 W h (by omega) (by omega) (by omega); rw [hn] at this; exact this)
  have hn1 : 1 ≤ n := by omega
  have hn4 : n ≤ 4 := by omega
  obtain ⟨d0, hd0⟩ : ∃ d0, newD n = d0 := ⟨_, rfl⟩
  have HNw : Hid (∀ W, Calls Try.prog 26 #[.int .i64 (n : Int)] W (DrEPost W (d0, 0))) := Lib.hid (fun W => by
    have := newD_any (n : Int) W
    rw [show newE (n : Int) = (newD n, 0) by unfold newE; rw [if_neg (by omega)]; rfl, hd0] at this
    exact this)
  have HD0 := Lib.hid hd0
  clear hn hnx hd0
  go_enter Try.func6, Try.ntmps6
  go_upto_region 4 with (first
    | (go_at_call 10
       refine (HNew.out _ (Below.refl _ _)).mono ?_
       rintro e1 w1 ⟨g, rfl, hg1, ht1, hb1⟩
       have Ht1 := Lib.hid ht1
       have Hb1 := Lib.hid hb1
       have hgl := ht1.lt
       clear ht1 hb1)
    | (go_at_call 37
       refine (HRg.out g _ Ht1.out).mono ?_
       rintro e w2 ⟨rfl, ht2, hg2⟩
       have HT0 : Hid (TS w w2 g w2.heap.size (.slice none 0 0) (.slice none 0 0) [] [] r.tail) := Lib.hid ⟨World.ownsRow_nil _ _ _ _, World.ownsRow_nil _ _ _ _, fun k hk => by simp [Value.ownBlock] at hk, ht2, below_only Hb1.out hg2 hg1 Hb1.out.size, hg1, by have := hg2.size; omega, Nat.le_refl _⟩
       clear ht2 hg2)
    | fail)
  obtain ⟨G, hG⟩ : ∃ G, w2.heap.size = G := ⟨_, rfl⟩
  rw [hG] at HT0
  have HSa : Hid (∀ r W, TapeAt W g r → Calls Try.prog 40 #[.pointer (some ⟨g, 0, none⟩)] W fun e w' => e = .returned (.int .u64 (saltI r)) ∧ TapeAt w' g r.tail.tail ∧ W.grownBy w' (some g)) := Lib.hid (fun r W h => salt_any g r W h)
  clear hG Ht1 Hb1 HNew HRg hgl hg1
  go_wp2
  go_loopw [7, 8, 9] (fun u v i wr => ∃ (l k r' : List Int), i = .int .i64 (l.length : Int) ∧ l.length ≤ n ∧ k.length = l.length ∧ TS w wr g G u v l k r') (fun _ _ i _ => (n - intOf i).toNat)
  case atStart => exact ⟨[], [], _, rfl, by simp, rfl, HT0.out⟩
  case round =>
    obtain ⟨l, k, r', rfl, hln, hkl, hts⟩ := hrel
    have HM := Lib.hid hts
    have Hkl := Lib.hid hkl
    have hk1 : k.length ≤ l.length := by omega
    have hk2 : l.length ≤ k.length := by omega
    clear hts hkl HT0
    by_cases hlt : l.length < n
    · have hlt' : (l.length : Int) < (n : Int) := by omega
      obtain ⟨sa, hsa⟩ : ∃ x, saltI r' = x := ⟨_, rfl⟩
      obtain ⟨ta, hta⟩ : ∃ x, saltI r'.tail.tail = x := ⟨_, rfl⟩
      have HS1 : Hid (∀ W, TapeAt W g r' → Calls Try.prog 40 #[.pointer (some ⟨g, 0, none⟩)] W fun e w' => e = .returned (.int .u64 sa) ∧ TapeAt w' g r'.tail.tail ∧ W.grownBy w' (some g)) := Lib.hid (fun W h => by have := HSa.out r' W h; rw [hsa] at this; exact this)
      have HS2 : Hid (∀ W, TapeAt W g r'.tail.tail → Calls Try.prog 40 #[.pointer (some ⟨g, 0, none⟩)] W fun e w' => e = .returned (.int .u64 ta) ∧ TapeAt w' g r'.tail.tail.tail.tail ∧ W.grownBy w' (some g)) := Lib.hid (fun W h => by have := HSa.out r'.tail.tail W h; rw [hta] at this; exact this)
      clear hsa hta
      go_wp2_with (first
        | (go_at_call 40
           (with_reducible refine (HS1.out _ HM.out.tp).mono ?_)
           rintro e w5 ⟨rfl, ht3, hg3⟩
           replace HM := Lib.hid (HM.out.tape hg3 ht3)
           clear ht3 hg3)
        | (go_at_call 40
           (with_reducible refine (HS2.out _ HM.out.tp).mono ?_)
           rintro e w6 ⟨rfl, ht3, hg3⟩
           replace HM := Lib.hid (HM.out.tape hg3 ht3)
           clear ht3 hg3)
        | (at_builtin
           refine wpList_append_any _ rfl (.tmp 34) (.tmp 37) _ rfl G 27 iu0 _ 1 8 Try.underlying23 iuh iuz0 iuz1 iuz2 rfl (by omega) u7 l.length (l.map (.int .u64)) (by rfl)
             (HM.out.alloc _).o1 _ _ 1 1 [.int .u64 sa] rfl ⟨rfl, fun _ => ⟨_, rfl, Nat.lt_succ_self _, fun j u hu => World.news_of_block (heap_alloc_new _ (.cells #[.int .u64 sa] 27)) j u hu⟩⟩ (by simp [Value.oneCell']) (by simp only [maxLen]; omega) (by omega) (HM.out.alloc _).GW ?_
           intro v7 w7 hown7 hg7 hat7
           replace HM := Lib.hid ((HM.out.alloc _).app1 hown7 hg7 hat7)
           clear hown7 hg7 hat7)
        | (at_builtin
           refine wpList_append_any _ rfl (.tmp 39) (.tmp 42) _ rfl G 27 iu0 _ 1 8 Try.underlying23 iuh iuz0 iuz1 iuz2 rfl (by omega) u8 k.length (k.map (.int .u64)) (by rfl)
             (HM.out.alloc _).o2 _ _ 1 1 [.int .u64 ta] rfl ⟨rfl, fun _ => ⟨_, rfl, Nat.lt_succ_self _, fun j u hu => World.news_of_block (heap_alloc_new _ (.cells #[.int .u64 ta] 27)) j u hu⟩⟩ (by simp [Value.oneCell']) (by simp only [maxLen]; omega) (by omega) (HM.out.alloc _).GW ?_
           intro v8 w8 hown8 hg8 hat8
           replace HM := Lib.hid ((HM.out.alloc _).app2 hown8 hg8 hat8)
           clear hown8 hg8 hat8)
        | fail)
      go_roundw
      case rel => exact ⟨l ++ [sa], k ++ [ta], _, by rw [List.length_append]; go_num, by rw [List.length_append]; simp; omega, by rw [List.length_append, List.length_append, Hkl.out]; rfl, HM.out⟩
      case measure => simp [intOf]; omega
    · have hle : l.length = n := by omega
      have hlt' : ¬ (l.length : Int) < (n : Int) := by omega
      have Hle := Lib.hid hle
      have hkl2 : k.length = n := by omega
      have Hkl2 := Lib.hid hkl2
      obtain ⟨bU, cU, hue, hU1, hU2, hU3, hU4, _, _⟩ := own_at HM.out.o1 (by omega)
      obtain ⟨bV, cV, hve, hV1, hV2, hV3, hV4, _, _⟩ := own_at HM.out.o2 (by omega)
      rw [hle] at hue
      rw [hkl2] at hve
      subst hue hve
      unfold maxLen at hU4 hV4
      rw [hle] at hlt' ⊢
      rw [hle] at hU3
      rw [hkl2] at hV3
      clear hle hkl2 hlt hk1 hk2 hln HSa
      have hsw := HM.out.bel.size
      go_upto_region 10 with (first
        | (go_at_call 26
           (with_reducible refine (HNw.out wr).mono ?_)
           rintro e w3 ⟨qx, rfl, hown3, hb3⟩
           have Hown3 := Lib.hid hown3
           have Hb3 := Lib.hid hb3
           clear hown3 hb3)
        | (go_at_call 26
           refine (HNw.out _).mono ?_
           rintro e w4 ⟨qy, rfl, hown4, hb4⟩
           have Hown4 := Lib.hid hown4
           have Hb4 := Lib.hid hb4
           clear hown4 hb4)
        | fail)
      obtain ⟨d1, hd1⟩ : ∃ d1, d0 = d1 := ⟨_, rfl⟩
      have HO : Hid (OS w (w4.alloc (.cells #[.int .i64 d0.st, .slice qy.a1 d0.se.length qy.c1, .slice qy.a2 d0.sd.length qy.c2, .slice qy.a3 d0.sx.length qy.c3, .slice qy.a4 d0.rv.length qy.c4] 26)) G w3.heap.size w4.heap.size qx d0 qy d0 (.slice (some ⟨bU, 0, none⟩) n cU) (.slice (some ⟨bV, 0, none⟩) n cV) l k) := Lib.hid (by
        have hs3 := Hb3.out.size
        have hs4 := Hb4.out.size
        rw [World.size_alloc] at hs4
        have ba : Below w3.heap.size w3 (w3.alloc (.cells #[.int .i64 d0.st, .slice qx.a1 d0.se.length qx.c1, .slice qx.a2 d0.sd.length qx.c2, .slice qx.a3 d0.sx.length qx.c3, .slice qx.a4 d0.rv.length qx.c4] 26)) := (Below.refl _ _).alloc (Nat.le_refl _) _
        have bb : Below w4.heap.size w4 (w4.alloc (.cells #[.int .i64 d0.st, .slice qy.a1 d0.se.length qy.c1, .slice qy.a2 d0.sd.length qy.c2, .slice qy.a3 d0.sx.length qy.c3, .slice qy.a4 d0.rv.length qy.c4] 26)) := (Below.refl _ _).alloc (Nat.le_refl _) _
        have b34 : Below w3.heap.size w3 (w4.alloc (.cells #[.int .i64 d0.st, .slice qy.a1 d0.se.length qy.c1, .slice qy.a2 d0.sd.length qy.c2, .slice qy.a3 d0.sx.length qy.c3, .slice qy.a4 d0.rv.length qy.c4] 26)) := (ba.trans (Hb4.out.mono (by simp))).trans (bb.mono (by omega))
        have br : Below wr.heap.size wr (w4.alloc (.cells #[.int .i64 d0.st, .slice qy.a1 d0.se.length qy.c1, .slice qy.a2 d0.sd.length qy.c2, .slice qy.a3 d0.sx.length qy.c3, .slice qy.a4 d0.rv.length qy.c4] 26)) := Hb3.out.trans (b34.mono hs3)
        have o4 := Hown4.out
        rw [World.size_alloc] at o4
        exact ⟨HM.out.bel.trans (br.mono hsw), ownsRow_below HM.out.o1 br, ownsRow_below HM.out.o2 br, (bb.block _ (by omega)).trans ((Hb4.out.block _ (by simp)).trans (heap_alloc_new w3 _)), heap_alloc_new w4 _, (Hown3.out.below b34).rebase (by omega), (o4.below bb).rebase (by omega), Free.young Hown3.out (Nat.le_refl _), Free.young Hown3.out (by omega), Free.old o4 (by omega), Free.young o4 (Nat.le_refl _),
          fun e => by injection e with e; simp at e; omega, fun e => by injection e with e; simp at e; omega, fun e => by injection e with e; simp at e; omega, fun e => by injection e with e; simp at e; omega, by omega, by omega, by simp⟩)
      obtain ⟨X, hX⟩ : ∃ B, w3.heap.size = B := ⟨_, rfl⟩
      obtain ⟨Y, hY⟩ : ∃ B, w4.heap.size = B := ⟨_, rfl⟩
      rw [hX, hY] at HO ⊢
      generalize w4.alloc (.cells #[.int .i64 d0.st, .slice qy.a1 d0.se.length qy.c1, .slice qy.a2 d0.sd.length qy.c2, .slice qy.a3 d0.sx.length qy.c3, .slice qy.a4 d0.rv.length qy.c4] 26) = w5 at *
      have HDx : Hid (d0 = pD n l k (upB 0)) := Lib.hid (by rw [← HD0.out, pD_new n l k]; rfl)
      have HDy : Hid (d0 = pD n l k (dnB n 0)) := Lib.hid (by rw [← HD0.out, pD_new n l k]; exact pD_congr (fun i hi => by simp [dnB]; omega) (fun _ _ _ => rfl))
      clear hd1 hX hY Hown3 Hown4 Hb3 Hb4 HNw HM
      go_wp2
      go_loopw [11, 13, 14] (fun e f i wr => ∃ (j : Nat) (qx qy : DV) (dx dy : Dr), j ≤ n ∧ i = .int .i64 (j : Int) ∧ e = .int .i64 0 ∧ f = .int .i64 0 ∧ dx = pD n l k (upB j) ∧ dy = pD n l k (dnB n j) ∧ OS w wr G X Y qx dx qy dy (.slice (some ⟨bU, 0, none⟩) n cU) (.slice (some ⟨bV, 0, none⟩) n cV) l k) (fun _ _ i _ => (n - intOf i).toNat)
      case atStart => exact ⟨0, qx, qy, d0, d0, Nat.zero_le _, rfl, rfl, rfl, HDx.out, HDy.out, HO.out⟩
      case round =>
        obtain ⟨j, qx, qy, dx, dy, hj, rfl, rfl, rfl, hdx, hdy, hos⟩ := hrel
        have HM := Lib.hid hos
        have Hdx := Lib.hid hdx
        have Hdy := Lib.hid hdy
        have Hsx : Hid dx.small := Lib.hid (by rw [hdx]; exact (lens_pD n l k _).small hn4)
        have Hsy : Hid dy.small := Lib.hid (by rw [hdy]; exact (lens_pD n l k _).small hn4)
        clear hos hdx hdy HO HDx HDy HD0
        by_cases hjn : j < n
        · have hjn' : (j : Int) < (n : Int) := by omega
          obtain ⟨p, hp⟩ : ∃ p : Nat, p + j + 1 = n := ⟨n - 1 - j, by omega⟩
          have hpp : (n : Int) - 1 - (j : Int) = (p : Int) := by omega
          have hpn : (p : Int) < (n : Int) := by omega
          have Hjl : Hid (j < l.length) := Lib.hid (by rw [Hle.out]; exact hjn)
          have Hjk : Hid (j < k.length) := Lib.hid (by rw [Hkl2.out]; exact hjn)
          have Hpl : Hid (p < l.length) := Lib.hid (by rw [Hle.out]; omega)
          have Hpk : Hid (p < k.length) := Lib.hid (by rw [Hkl2.out]; omega)
          have Hcx : Hid (commitD dx (j : Int) (sealI (j : Int) (l.getD j 0) (k.getD j 0)) = (pD n l k (upB (j + 1)), 0)) := Lib.hid (by rw [Hdx.out]; exact ord_x hn1 hn4 hjn)
          have Hcy : Hid (commitD dy (p : Int) (sealI (p : Int) (l.getD p 0) (k.getD p 0)) = (pD n l k (dnB n (j + 1)), 0)) := Lib.hid (by rw [Hdy.out]; exact ord_y hn1 hn4 hp)
          have HcUa : Hid (∀ (W : World) (qx qy : DV) (dx dy : Dr), OS w W G X Y qx dx qy dy (.slice (some ⟨bU, 0, none⟩) n cU) (.slice (some ⟨bV, 0, none⟩) n cV) l k → W.cell? ⟨bU, j, none⟩ = some (.int .u64 (l.getD j 0))) := Lib.hid (fun W qx qy dx dy h => own_nth h.o1 Hjl.out)
          have HcVa : Hid (∀ (W : World) (qx qy : DV) (dx dy : Dr), OS w W G X Y qx dx qy dy (.slice (some ⟨bU, 0, none⟩) n cU) (.slice (some ⟨bV, 0, none⟩) n cV) l k → W.cell? ⟨bV, j, none⟩ = some (.int .u64 (k.getD j 0))) := Lib.hid (fun W qx qy dx dy h => own_nth h.o2 Hjk.out)
          have HcUb : Hid (∀ (W : World) (qx qy : DV) (dx dy : Dr), OS w W G X Y qx dx qy dy (.slice (some ⟨bU, 0, none⟩) n cU) (.slice (some ⟨bV, 0, none⟩) n cV) l k → W.cell? ⟨bU, p, none⟩ = some (.int .u64 (l.getD p 0))) := Lib.hid (fun W qx qy dx dy h => own_nth h.o1 Hpl.out)
          have HcVb : Hid (∀ (W : World) (qx qy : DV) (dx dy : Dr), OS w W G X Y qx dx qy dy (.slice (some ⟨bU, 0, none⟩) n cU) (.slice (some ⟨bV, 0, none⟩) n cV) l k → W.cell? ⟨bV, p, none⟩ = some (.int .u64 (k.getD p 0))) := Lib.hid (fun W qx qy dx dy h => own_nth h.o2 Hpk.out)
          obtain ⟨sa, hsa⟩ : ∃ x, l.getD j 0 = x := ⟨_, rfl⟩
          obtain ⟨ta, hta⟩ : ∃ x, k.getD j 0 = x := ⟨_, rfl⟩
          obtain ⟨sb, hsb⟩ : ∃ x, l.getD p 0 = x := ⟨_, rfl⟩
          obtain ⟨tb, htb⟩ : ∃ x, k.getD p 0 = x := ⟨_, rfl⟩
          simp only [hsa, hta, hsb, htb] at Hcx Hcy HcUa HcVa HcUb HcVb
          clear hsa hta hsb htb
          obtain ⟨d1, hd1⟩ : ∃ x, pD n l k (upB (j + 1)) = x := ⟨_, rfl⟩
          obtain ⟨d2, hd2⟩ : ∃ x, pD n l k (dnB n (j + 1)) = x := ⟨_, rfl⟩
          obtain ⟨sva, hsva⟩ : ∃ x, sealI (j : Int) sa ta = x := ⟨_, rfl⟩
          obtain ⟨svb, hsvb⟩ : ∃ x, sealI (p : Int) sb tb = x := ⟨_, rfl⟩
          rw [hd1, hsva] at Hcx
          rw [hd2, hsvb] at Hcy
          have Hd1 := Lib.hid hd1
          have Hd2 := Lib.hid hd2
          have Hsva := Lib.hid hsva
          have Hsvb := Lib.hid hsvb
          clear hd1 hd2 hsva hsvb
          go_upto_region 16 with fail
          have HX1 := Lib.hid (HM.out.below (Below.drew (Below.refl _ _)))
          have ca : wr.drew.cell? ⟨bU, j, none⟩ = some (.int .u64 sa) := HcUa.out _ _ _ _ _ HX1.out
          have cb : wr.drew.cell? ⟨bV, j, none⟩ = some (.int .u64 ta) := HcVa.out _ _ _ _ _ HX1.out
          have hbk := DC.of HX1.out.bx; have p0 := hbk.c0; have p1 := hbk.c1; have p2 := hbk.c2; have p3 := hbk.c3; have p4 := hbk.c4; have pf0 := hbk.f 0; have pf1 := hbk.f 1; have pf2 := hbk.f 2; have pf3 := hbk.f 3; have pf4 := hbk.f 4; clear hbk
          have HSl : Hid (∀ W, Calls Try.prog 33 #[.int .i64 (j : Int), .int .u64 sa, .int .u64 ta] W fun e w' => e = .returned (.int .u64 sva) ∧ w' = W) := Lib.hid (fun W => by have := seal_any (j : Int) sa ta W; rw [Hsva.out] at this; exact this)
          have HC : Hid (∀ W, W = wr.drew → Calls Try.prog 17 #[.agg #[.int .i64 dx.st, .slice qx.a1 dx.se.length qx.c1, .slice qx.a2 dx.sd.length qx.c2, .slice qx.a3 dx.sx.length qx.c3, .slice qx.a4 dx.rv.length qx.c4], .int .i64 (j : Int), .int .u64 sva] W (DrEPost W (d1, 0))) := Lib.hid (fun W hW => by have := commit_any qx dx (j : Int) sva W (by rw [hW]; exact HX1.out.rx.at) Hsx.out; rw [Hcx.out] at this; exact this)
          refine wp_region_held_two (S := (fun w' : World => w'.cell? ⟨X, 0, none⟩ = some (.int .i64 dx.st) ∧ w'.cell? ⟨X, 1, none⟩ = some (.slice qx.a1 dx.se.length qx.c1) ∧ w'.cell? ⟨X, 2, none⟩ = some (.slice qx.a2 dx.sd.length qx.c2) ∧ w'.cell? ⟨X, 3, none⟩ = some (.slice qx.a3 dx.sx.length qx.c3) ∧ w'.cell? ⟨X, 4, none⟩ = some (.slice qx.a4 dx.rv.length qx.c4) ∧ w'.cell? ⟨bU, j, none⟩ = some (.int .u64 sa) ∧ w'.cell? ⟨bV, j, none⟩ = some (.int .u64 ta))) 13 (by kernel_rfl) (by kernel_rfl) ?_
          have hHeld : (fun w' : World => w'.cell? ⟨X, 0, none⟩ = some (.int .i64 dx.st) ∧ w'.cell? ⟨X, 1, none⟩ = some (.slice qx.a1 dx.se.length qx.c1) ∧ w'.cell? ⟨X, 2, none⟩ = some (.slice qx.a2 dx.sd.length qx.c2) ∧ w'.cell? ⟨X, 3, none⟩ = some (.slice qx.a3 dx.sx.length qx.c3) ∧ w'.cell? ⟨X, 4, none⟩ = some (.slice qx.a4 dx.rv.length qx.c4) ∧ w'.cell? ⟨bU, j, none⟩ = some (.int .u64 sa) ∧ w'.cell? ⟨bV, j, none⟩ = some (.int .u64 ta)) wr.drew := ⟨p0, p1, p2, p3, p4, ca, cb⟩
          simp only [List.take_succ_cons, List.take_zero, List.replicate]
          refine wpAnyH_take (i := 0) (v := ?vva0) rfl (by kernel_rfl) (by kernel_rfl) (by kernel_rfl) (fun _ _ _ h => h) (Or.inl ⟨by rfl, ?hya0⟩) hHeld ?resta0; (case hya0 => (intro w hSw; (try dsimp only at hSw); go_simp; all_goals (with_reducible rfl))); simp only [Act.put, List.setIfInBounds_toArray, List.set_cons_zero, List.set_cons_succ]
          refine wpAnyH_take (i := 1) (v := ?vva1) rfl (by kernel_rfl) (by kernel_rfl) (by kernel_rfl) (fun _ _ _ h => h) (Or.inl ⟨by rfl, ?hya1⟩) hHeld ?resta1; (case hya1 => (intro w hSw; (try dsimp only at hSw); go_simp; all_goals (with_reducible rfl))); simp only [Act.put, List.setIfInBounds_toArray, List.set_cons_zero, List.set_cons_succ]
          refine wpAnyH_take (i := 2) (v := ?vva2) rfl (by kernel_rfl) (by kernel_rfl) (by kernel_rfl) (fun _ _ _ h => h) (Or.inl ⟨by rfl, ?hya2⟩) hHeld ?resta2; (case hya2 => (intro w hSw; (try dsimp only at hSw); go_simp; all_goals (with_reducible rfl))); simp only [Act.put, List.setIfInBounds_toArray, List.set_cons_zero, List.set_cons_succ]
          refine wpAnyH_take (i := 3) (v := ?vva3) rfl (by kernel_rfl) (by kernel_rfl) (by kernel_rfl) (fun _ _ _ h => h) (Or.inl ⟨by rfl, ?hya3⟩) hHeld ?resta3; (case hya3 => (intro w hSw; (try dsimp only at hSw); go_simp; all_goals (with_reducible rfl))); simp only [Act.put, List.setIfInBounds_toArray, List.set_cons_zero, List.set_cons_succ]
          refine wpAnyH_take (i := 4) (v := ?vva4) rfl (by kernel_rfl) (by kernel_rfl) (by kernel_rfl) (fun _ _ _ h => h) (Or.inl ⟨by rfl, ?hya4⟩) hHeld ?resta4; (case hya4 => (intro w hSw; (try dsimp only at hSw); go_simp; all_goals (with_reducible rfl))); simp only [Act.put, List.setIfInBounds_toArray, List.set_cons_zero, List.set_cons_succ]
          refine wpAnyH_take (i := 5) (v := ?vva5) rfl (by kernel_rfl) (by kernel_rfl) (by kernel_rfl) (fun _ _ _ h => h) (Or.inl ⟨by rfl, ?hya5⟩) hHeld ?resta5; (case hya5 => (intro w hSw; (try dsimp only at hSw); go_simp; all_goals (with_reducible rfl))); simp only [Act.put, List.setIfInBounds_toArray, List.set_cons_zero, List.set_cons_succ]
          refine wpAnyH_take (i := 6) (v := ?vva6) rfl (by kernel_rfl) (by kernel_rfl) (by kernel_rfl) (fun _ _ _ h => h) (Or.inl ⟨by rfl, ?hya6⟩) hHeld ?resta6; (case hya6 => (intro w hSw; (try dsimp only at hSw); go_simp; all_goals (with_reducible rfl))); simp only [Act.put, List.setIfInBounds_toArray, List.set_cons_zero, List.set_cons_succ]
          refine wpAnyH_take (i := 7) (v := ?vva7) rfl (by kernel_rfl) (by kernel_rfl) (by kernel_rfl) (fun _ _ _ h => h) (Or.inl ⟨by rfl, ?hya7⟩) hHeld ?resta7; (case hya7 => (intro w hSw; (try dsimp only at hSw); go_simp; all_goals (with_reducible rfl))); simp only [Act.put, List.setIfInBounds_toArray, List.set_cons_zero, List.set_cons_succ]
          refine wpAnyH_take (i := 8) (v := ?vva8) rfl (by kernel_rfl) (by kernel_rfl) (by kernel_rfl) (fun _ _ _ h => h) (Or.inl ⟨by rfl, ?hya8⟩) hHeld ?resta8; (case hya8 => (intro w hSw; (try dsimp only at hSw); go_simp; all_goals (with_reducible rfl))); simp only [Act.put, List.setIfInBounds_toArray, List.set_cons_zero, List.set_cons_succ]
          refine wpAnyH_take (i := 9) (v := ?vva9) rfl (by kernel_rfl) (by kernel_rfl) (by kernel_rfl) (fun _ _ _ h => h) (Or.inl ⟨by rfl, ?hya9⟩) hHeld ?resta9; (case hya9 => (intro w hSw; (try dsimp only at hSw); go_simp; all_goals (with_reducible rfl))); simp only [Act.put, List.setIfInBounds_toArray, List.set_cons_zero, List.set_cons_succ]
          refine wpAnyH_take (i := 10) (v := ?vva10) rfl (by kernel_rfl) (by kernel_rfl) (by kernel_rfl) (fun _ _ _ h => h) (Or.inl ⟨by rfl, ?hya10⟩) hHeld ?resta10; (case hya10 => (intro w hSw; (try dsimp only at hSw); go_simp; all_goals (with_reducible rfl))); simp only [Act.put, List.setIfInBounds_toArray, List.set_cons_zero, List.set_cons_succ]
          refine wpAnyH_ready (rs := [11]) (by kernel_rfl) (by simp) ?_; refine AllReadyH.cons rfl (fun K hK => ?_) AllReadyH.nil
          go_simp
          go_at_call 33
          refine (HSl.out _).mono ?_
          rintro e wq ⟨rfl, rfl⟩
          refine hK.out _ _ hHeld (fun hHeld => ?_)
          clear hK K
          simp only [Act.put, List.setIfInBounds_toArray, List.set_cons_zero, List.set_cons_succ]
          refine wpAnyH_ready (rs := [12]) (by kernel_rfl) (by simp) ?_; refine AllReadyH.cons rfl (fun K hK => ?_) AllReadyH.nil
          go_simp
          go_at_call 17
          refine (HC.out _ rfl).mono ?_
          rintro e wt ⟨q1, rfl, hown, hb3⟩
          have Hown := Lib.hid hown
          have Hb3 := Lib.hid hb3
          have HX3 := Lib.hid (HX1.out.below hb3)
          have ca3 := HcUa.out _ _ _ _ _ HX3.out
          have cb3 := HcVa.out _ _ _ _ _ HX3.out
          clear hown hb3
          have hbk := DC.of HX3.out.bx; have z0 := hbk.c0; have z1 := hbk.c1; have z2 := hbk.c2; have z3 := hbk.c3; have z4 := hbk.c4; have zf0 := hbk.f 0; have zf1 := hbk.f 1; have zf2 := hbk.f 2; have zf3 := hbk.f 3; have zf4 := hbk.f 4; clear hbk
          refine hK.out _ _ ⟨z0, z1, z2, z3, z4, ca3, cb3⟩ (fun hHeld => ?_)
          clear hK K hHeld
          (try simp only [Act.put, List.setIfInBounds_toArray, List.set_cons_zero, List.set_cons_succ])
          refine wpAnyH_done (by kernel_rfl) ?_ _
          show wpAnyH _ _ _ _ _ _ _ _ _
          have hHeld : (fun _ : World => True) wt := trivial
          refine wpAnyH_take (i := 13) (v := ?vva13) rfl (by kernel_rfl) (by kernel_rfl) (by kernel_rfl) (fun _ _ _ h => h) (Or.inl ⟨by rfl, ?hya13⟩) hHeld ?resta13; (case hya13 => (intro w hSw; (try dsimp only at hSw); go_simp; all_goals (with_reducible rfl))); simp only [Act.put, List.setIfInBounds_toArray, List.set_cons_zero, List.set_cons_succ]
          refine wpAnyH_take (i := 14) (v := ?vva14) rfl (by kernel_rfl) (by kernel_rfl) (by kernel_rfl) (fun _ _ _ h => h) (Or.inl ⟨by rfl, ?hya14⟩) hHeld ?resta14; (case hya14 => (intro w hSw; (try dsimp only at hSw); go_simp; all_goals (with_reducible rfl))); simp only [Act.put, List.setIfInBounds_toArray, List.set_cons_zero, List.set_cons_succ]
          refine wpAnyH_take (i := 15) (v := ?vva15) rfl (by kernel_rfl) (by kernel_rfl) (by kernel_rfl) (fun _ _ _ h => h) (Or.inl ⟨by rfl, ?hya15⟩) hHeld ?resta15; (case hya15 => (intro w hSw; (try dsimp only at hSw); go_simp; all_goals (with_reducible rfl))); simp only [Act.put, List.setIfInBounds_toArray, List.set_cons_zero, List.set_cons_succ]
          refine wpAnyH_ready (rs := [16]) (by kernel_rfl) (by simp) ?_; refine AllReadyH.cons rfl (fun K hK => ?_) AllReadyH.nil
          go_simp
          go_wp2_with fail
          refine hK.out _ _ trivial (fun hHeld => ?_)
          clear hK K
          (try simp only [Act.put, List.setIfInBounds_toArray, List.set_cons_zero, List.set_cons_succ])
          refine wpAnyH_take (i := 17) (v := ?vva17) rfl (by kernel_rfl) (by kernel_rfl) (by kernel_rfl) (fun _ _ _ h => h) (Or.inl ⟨by rfl, ?hya17⟩) hHeld ?resta17; (case hya17 => (intro w hSw; (try dsimp only at hSw); go_simp; all_goals (with_reducible rfl))); simp only [Act.put, List.setIfInBounds_toArray, List.set_cons_zero, List.set_cons_succ]
          refine wpAnyH_done (by kernel_rfl) ?_ _
          clear hHeld
          have HM1 := Lib.hid (HX1.out.putX Hb3.out Hown.out)
          clear p0 p1 p2 p3 p4 pf0 pf1 pf2 pf3 pf4
          clear z0 z1 z2 z3 z4 zf0 zf1 zf2 zf3 zf4
          clear ca cb ca3 cb3
          skip
          generalize (((((wt.setCell ⟨X, 0, none⟩ (.int .i64 d1.st)).setCell ⟨X, 1, none⟩ (.slice q1.a1 d1.se.length q1.c1)).setCell ⟨X, 2, none⟩ (.slice q1.a2 d1.sd.length q1.c2)).setCell ⟨X, 3, none⟩ (.slice q1.a3 d1.sx.length q1.c3)).setCell ⟨X, 4, none⟩ (.slice q1.a4 d1.rv.length q1.c4)) = wa at *
          clear HX1 HX3 Hown Hb3 HC
          go_upto_region 17 with fail
          have HX1 := Lib.hid (HM1.out.below (Below.drew (Below.refl _ _)))
          have ca : wa.drew.cell? ⟨bU, p, none⟩ = some (.int .u64 sb) := HcUb.out _ _ _ _ _ HX1.out
          have cb : wa.drew.cell? ⟨bV, p, none⟩ = some (.int .u64 tb) := HcVb.out _ _ _ _ _ HX1.out
          have hbk := DC.of HX1.out.bY; have p0 := hbk.c0; have p1 := hbk.c1; have p2 := hbk.c2; have p3 := hbk.c3; have p4 := hbk.c4; have pf0 := hbk.f 0; have pf1 := hbk.f 1; have pf2 := hbk.f 2; have pf3 := hbk.f 3; have pf4 := hbk.f 4; clear hbk
          have HSl : Hid (∀ W, Calls Try.prog 33 #[.int .i64 (p : Int), .int .u64 sb, .int .u64 tb] W fun e w' => e = .returned (.int .u64 svb) ∧ w' = W) := Lib.hid (fun W => by have := seal_any (p : Int) sb tb W; rw [Hsvb.out] at this; exact this)
          have HC : Hid (∀ W, W = wa.drew → Calls Try.prog 17 #[.agg #[.int .i64 dy.st, .slice qy.a1 dy.se.length qy.c1, .slice qy.a2 dy.sd.length qy.c2, .slice qy.a3 dy.sx.length qy.c3, .slice qy.a4 dy.rv.length qy.c4], .int .i64 (p : Int), .int .u64 svb] W (DrEPost W (d2, 0))) := Lib.hid (fun W hW => by have := commit_any qy dy (p : Int) svb W (by rw [hW]; exact HX1.out.ry.at) Hsy.out; rw [Hcy.out] at this; exact this)
          refine wp_region_held_two (S := (fun w' : World => w'.cell? ⟨Y, 0, none⟩ = some (.int .i64 dy.st) ∧ w'.cell? ⟨Y, 1, none⟩ = some (.slice qy.a1 dy.se.length qy.c1) ∧ w'.cell? ⟨Y, 2, none⟩ = some (.slice qy.a2 dy.sd.length qy.c2) ∧ w'.cell? ⟨Y, 3, none⟩ = some (.slice qy.a3 dy.sx.length qy.c3) ∧ w'.cell? ⟨Y, 4, none⟩ = some (.slice qy.a4 dy.rv.length qy.c4) ∧ w'.cell? ⟨bU, p, none⟩ = some (.int .u64 sb) ∧ w'.cell? ⟨bV, p, none⟩ = some (.int .u64 tb))) 13 (by kernel_rfl) (by kernel_rfl) ?_
          have hHeld : (fun w' : World => w'.cell? ⟨Y, 0, none⟩ = some (.int .i64 dy.st) ∧ w'.cell? ⟨Y, 1, none⟩ = some (.slice qy.a1 dy.se.length qy.c1) ∧ w'.cell? ⟨Y, 2, none⟩ = some (.slice qy.a2 dy.sd.length qy.c2) ∧ w'.cell? ⟨Y, 3, none⟩ = some (.slice qy.a3 dy.sx.length qy.c3) ∧ w'.cell? ⟨Y, 4, none⟩ = some (.slice qy.a4 dy.rv.length qy.c4) ∧ w'.cell? ⟨bU, p, none⟩ = some (.int .u64 sb) ∧ w'.cell? ⟨bV, p, none⟩ = some (.int .u64 tb)) wa.drew := ⟨p0, p1, p2, p3, p4, ca, cb⟩
          simp only [List.take_succ_cons, List.take_zero, List.replicate]
          refine wpAnyH_take (i := 0) (v := ?vvb0) rfl (by kernel_rfl) (by kernel_rfl) (by kernel_rfl) (fun _ _ _ h => h) (Or.inl ⟨by rfl, ?hyb0⟩) hHeld ?restb0; (case hyb0 => (intro w hSw; (try dsimp only at hSw); go_simp; all_goals (with_reducible rfl))); simp only [Act.put, List.setIfInBounds_toArray, List.set_cons_zero, List.set_cons_succ]
          refine wpAnyH_take (i := 1) (v := ?vvb1) rfl (by kernel_rfl) (by kernel_rfl) (by kernel_rfl) (fun _ _ _ h => h) (Or.inl ⟨by rfl, ?hyb1⟩) hHeld ?restb1; (case hyb1 => (intro w hSw; (try dsimp only at hSw); go_simp; all_goals (with_reducible rfl))); simp only [Act.put, List.setIfInBounds_toArray, List.set_cons_zero, List.set_cons_succ]
          refine wpAnyH_take (i := 2) (v := ?vvb2) rfl (by kernel_rfl) (by kernel_rfl) (by kernel_rfl) (fun _ _ _ h => h) (Or.inl ⟨by rfl, ?hyb2⟩) hHeld ?restb2; (case hyb2 => (intro w hSw; (try dsimp only at hSw); go_simp; all_goals (with_reducible rfl))); simp only [Act.put, List.setIfInBounds_toArray, List.set_cons_zero, List.set_cons_succ]
          refine wpAnyH_take (i := 3) (v := ?vvb3) rfl (by kernel_rfl) (by kernel_rfl) (by kernel_rfl) (fun _ _ _ h => h) (Or.inl ⟨by rfl, ?hyb3⟩) hHeld ?restb3; (case hyb3 => (intro w hSw; (try dsimp only at hSw); go_simp; all_goals (with_reducible rfl))); simp only [Act.put, List.setIfInBounds_toArray, List.set_cons_zero, List.set_cons_succ]
          refine wpAnyH_take (i := 4) (v := ?vvb4) rfl (by kernel_rfl) (by kernel_rfl) (by kernel_rfl) (fun _ _ _ h => h) (Or.inl ⟨by rfl, ?hyb4⟩) hHeld ?restb4; (case hyb4 => (intro w hSw; (try dsimp only at hSw); go_simp; all_goals (with_reducible rfl))); simp only [Act.put, List.setIfInBounds_toArray, List.set_cons_zero, List.set_cons_succ]
          refine wpAnyH_take (i := 5) (v := ?vvb5) rfl (by kernel_rfl) (by kernel_rfl) (by kernel_rfl) (fun _ _ _ h => h) (Or.inl ⟨by rfl, ?hyb5⟩) hHeld ?restb5; (case hyb5 => (intro w hSw; (try dsimp only at hSw); go_simp; all_goals (with_reducible rfl))); simp only [Act.put, List.setIfInBounds_toArray, List.set_cons_zero, List.set_cons_succ]
          refine wpAnyH_take (i := 6) (v := ?vvb6) rfl (by kernel_rfl) (by kernel_rfl) (by kernel_rfl) (fun _ _ _ h => h) (Or.inl ⟨by rfl, ?hyb6⟩) hHeld ?restb6; (case hyb6 => (intro w hSw; (try dsimp only at hSw); go_simp; all_goals (with_reducible rfl))); simp only [Act.put, List.setIfInBounds_toArray, List.set_cons_zero, List.set_cons_succ]
          refine wpAnyH_take (i := 7) (v := ?vvb7) rfl (by kernel_rfl) (by kernel_rfl) (by kernel_rfl) (fun _ _ _ h => h) (Or.inl ⟨by rfl, ?hyb7⟩) hHeld ?restb7; (case hyb7 => (intro w hSw; (try dsimp only at hSw); go_simp; all_goals (with_reducible rfl))); simp only [Act.put, List.setIfInBounds_toArray, List.set_cons_zero, List.set_cons_succ]
          refine wpAnyH_take (i := 8) (v := ?vvb8) rfl (by kernel_rfl) (by kernel_rfl) (by kernel_rfl) (fun _ _ _ h => h) (Or.inl ⟨by rfl, ?hyb8⟩) hHeld ?restb8; (case hyb8 => (intro w hSw; (try dsimp only at hSw); go_simp; all_goals (with_reducible rfl))); simp only [Act.put, List.setIfInBounds_toArray, List.set_cons_zero, List.set_cons_succ]
          refine wpAnyH_take (i := 9) (v := ?vvb9) rfl (by kernel_rfl) (by kernel_rfl) (by kernel_rfl) (fun _ _ _ h => h) (Or.inl ⟨by rfl, ?hyb9⟩) hHeld ?restb9; (case hyb9 => (intro w hSw; (try dsimp only at hSw); go_simp; all_goals (with_reducible rfl))); simp only [Act.put, List.setIfInBounds_toArray, List.set_cons_zero, List.set_cons_succ]
          refine wpAnyH_take (i := 10) (v := ?vvb10) rfl (by kernel_rfl) (by kernel_rfl) (by kernel_rfl) (fun _ _ _ h => h) (Or.inl ⟨by rfl, ?hyb10⟩) hHeld ?restb10; (case hyb10 => (intro w hSw; (try dsimp only at hSw); go_simp; all_goals (with_reducible rfl))); simp only [Act.put, List.setIfInBounds_toArray, List.set_cons_zero, List.set_cons_succ]
          refine wpAnyH_ready (rs := [11]) (by kernel_rfl) (by simp) ?_; refine AllReadyH.cons rfl (fun K hK => ?_) AllReadyH.nil
          go_simp
          go_at_call 33
          refine (HSl.out _).mono ?_
          rintro e wq ⟨rfl, rfl⟩
          refine hK.out _ _ hHeld (fun hHeld => ?_)
          clear hK K
          simp only [Act.put, List.setIfInBounds_toArray, List.set_cons_zero, List.set_cons_succ]
          refine wpAnyH_ready (rs := [12]) (by kernel_rfl) (by simp) ?_; refine AllReadyH.cons rfl (fun K hK => ?_) AllReadyH.nil
          go_simp
          go_at_call 17
          refine (HC.out _ rfl).mono ?_
          rintro e wt ⟨q2, rfl, hown, hb3⟩
          have Hown := Lib.hid hown
          have Hb3 := Lib.hid hb3
          have HX3 := Lib.hid (HX1.out.below hb3)
          have ca3 := HcUb.out _ _ _ _ _ HX3.out
          have cb3 := HcVb.out _ _ _ _ _ HX3.out
          clear hown hb3
          have hbk := DC.of HX3.out.bY; have z0 := hbk.c0; have z1 := hbk.c1; have z2 := hbk.c2; have z3 := hbk.c3; have z4 := hbk.c4; have zf0 := hbk.f 0; have zf1 := hbk.f 1; have zf2 := hbk.f 2; have zf3 := hbk.f 3; have zf4 := hbk.f 4; clear hbk
          refine hK.out _ _ ⟨z0, z1, z2, z3, z4, ca3, cb3⟩ (fun hHeld => ?_)
          clear hK K hHeld
          (try simp only [Act.put, List.setIfInBounds_toArray, List.set_cons_zero, List.set_cons_succ])
          refine wpAnyH_done (by kernel_rfl) ?_ _
          show wpAnyH _ _ _ _ _ _ _ _ _
          have hHeld : (fun _ : World => True) wt := trivial
          refine wpAnyH_take (i := 13) (v := ?vvb13) rfl (by kernel_rfl) (by kernel_rfl) (by kernel_rfl) (fun _ _ _ h => h) (Or.inl ⟨by rfl, ?hyb13⟩) hHeld ?restb13; (case hyb13 => (intro w hSw; (try dsimp only at hSw); go_simp; all_goals (with_reducible rfl))); simp only [Act.put, List.setIfInBounds_toArray, List.set_cons_zero, List.set_cons_succ]
          refine wpAnyH_take (i := 14) (v := ?vvb14) rfl (by kernel_rfl) (by kernel_rfl) (by kernel_rfl) (fun _ _ _ h => h) (Or.inl ⟨by rfl, ?hyb14⟩) hHeld ?restb14; (case hyb14 => (intro w hSw; (try dsimp only at hSw); go_simp; all_goals (with_reducible rfl))); simp only [Act.put, List.setIfInBounds_toArray, List.set_cons_zero, List.set_cons_succ]
          refine wpAnyH_take (i := 15) (v := ?vvb15) rfl (by kernel_rfl) (by kernel_rfl) (by kernel_rfl) (fun _ _ _ h => h) (Or.inl ⟨by rfl, ?hyb15⟩) hHeld ?restb15; (case hyb15 => (intro w hSw; (try dsimp only at hSw); go_simp; all_goals (with_reducible rfl))); simp only [Act.put, List.setIfInBounds_toArray, List.set_cons_zero, List.set_cons_succ]
          refine wpAnyH_ready (rs := [16]) (by kernel_rfl) (by simp) ?_; refine AllReadyH.cons rfl (fun K hK => ?_) AllReadyH.nil
          go_simp
          go_wp2_with fail
          refine hK.out _ _ trivial (fun hHeld => ?_)
          clear hK K
          (try simp only [Act.put, List.setIfInBounds_toArray, List.set_cons_zero, List.set_cons_succ])
          refine wpAnyH_take (i := 17) (v := ?vvb17) rfl (by kernel_rfl) (by kernel_rfl) (by kernel_rfl) (fun _ _ _ h => h) (Or.inl ⟨by rfl, ?hyb17⟩) hHeld ?restb17; (case hyb17 => (intro w hSw; (try dsimp only at hSw); go_simp; all_goals (with_reducible rfl))); simp only [Act.put, List.setIfInBounds_toArray, List.set_cons_zero, List.set_cons_succ]
          refine wpAnyH_done (by kernel_rfl) ?_ _
          clear hHeld
          have HM2 := Lib.hid (HX1.out.putY Hb3.out Hown.out)
          clear p0 p1 p2 p3 p4 pf0 pf1 pf2 pf3 pf4
          clear z0 z1 z2 z3 z4 zf0 zf1 zf2 zf3 zf4
          clear ca cb ca3 cb3
          skip
          generalize (((((wt.setCell ⟨Y, 0, none⟩ (.int .i64 d2.st)).setCell ⟨Y, 1, none⟩ (.slice q2.a1 d2.se.length q2.c1)).setCell ⟨Y, 2, none⟩ (.slice q2.a2 d2.sd.length q2.c2)).setCell ⟨Y, 3, none⟩ (.slice q2.a3 d2.sx.length q2.c3)).setCell ⟨Y, 4, none⟩ (.slice q2.a4 d2.rv.length q2.c4)) = wb at *
          clear HX1 HX3 Hown Hb3 HC
          go_wp2
          go_roundw
          case rel => exact ⟨j + 1, q1, q2, d1, d2, by omega, by go_num, rfl, rfl, Hd1.out.symm, Hd2.out.symm, HM2.out⟩
          case measure => simp [intOf]; omega
        · have hjn2 : j = n := by omega
          have hjn' : ¬ (j : Int) < (n : Int) := by omega
          have Hdx2 : Hid (dx = pD n l k (upB n)) := Lib.hid (by rw [Hdx.out, hjn2])
          have HCx : Hid (∀ W, Below wr.heap.size wr W → Calls Try.prog 20 #[.agg #[.int .i64 dx.st, .slice qx.a1 dx.se.length qx.c1, .slice qx.a2 dx.sd.length qx.c2, .slice qx.a3 dx.sx.length qx.c3, .slice qx.a4 dx.rv.length qx.c4]] W (DrEPost W (oD 2 n l k (upB 0), 0))) := Lib.hid (fun W hW => by have := close_any qx dx W (HM.out.rx.at.below hW) Hsx.out; rw [Hdx2.out, close_x hn1 hn4, ← Hdx2.out] at this; exact this)
          obtain ⟨d1, hd1⟩ : ∃ x, oD 2 n l k (upB 0) = x := ⟨_, rfl⟩
          rw [hd1] at HCx
          have Hd1 := Lib.hid hd1
          have Hdy2 : Hid (dy = pD n l k (dnB n n)) := Lib.hid (by rw [Hdy.out, hjn2])
          clear hd1 Hdy
          have hbk := DC.of HM.out.bx; have p0 := hbk.c0; have p1 := hbk.c1; have p2 := hbk.c2; have p3 := hbk.c3; have p4 := hbk.c4; have pf0 := hbk.f 0; have pf1 := hbk.f 1; have pf2 := hbk.f 2; have pf3 := hbk.f 3; have pf4 := hbk.f 4; clear hbk
          go_upto_region 21 with (first
            | (go_at_call 20
               refine (HCx.out _ (Below.refl _ _)).mono ?_
               rintro e wa ⟨q1, rfl, hown, hb3⟩
               have HM1 := Lib.hid (HM.out.putX hb3 hown)
               have hbk := DC.of (HM.out.below hb3).bx; have z0 := hbk.c0; have z1 := hbk.c1; have z2 := hbk.c2; have z3 := hbk.c3; have z4 := hbk.c4; have zf0 := hbk.f 0; have zf1 := hbk.f 1; have zf2 := hbk.f 2; have zf3 := hbk.f 3; have zf4 := hbk.f 4; clear hbk
               clear hown hb3)
            | fail)
          clear p0 p1 p2 p3 p4 pf0 pf1 pf2 pf3 pf4
          clear z0 z1 z2 z3 z4 zf0 zf1 zf2 zf3 zf4
          generalize (((((wa.setCell ⟨X, 0, none⟩ (.int .i64 d1.st)).setCell ⟨X, 1, none⟩ (.slice q1.a1 d1.se.length q1.c1)).setCell ⟨X, 2, none⟩ (.slice q1.a2 d1.sd.length q1.c2)).setCell ⟨X, 3, none⟩ (.slice q1.a3 d1.sx.length q1.c3)).setCell ⟨X, 4, none⟩ (.slice q1.a4 d1.rv.length q1.c4)) = wb at *
          clear HM HCx
          have HCy : Hid (∀ W, Below wb.heap.size wb W → Calls Try.prog 20 #[.agg #[.int .i64 dy.st, .slice qy.a1 dy.se.length qy.c1, .slice qy.a2 dy.sd.length qy.c2, .slice qy.a3 dy.sx.length qy.c3, .slice qy.a4 dy.rv.length qy.c4]] W (DrEPost W (oD 2 n l k (dnB n 0), 0))) := Lib.hid (fun W hW => by have := close_any qy dy W (HM1.out.ry.at.below hW) Hsy.out; rw [Hdy2.out, close_y hn1 hn4, ← Hdy2.out] at this; exact this)
          obtain ⟨d2, hd2⟩ : ∃ x, oD 2 n l k (dnB n 0) = x := ⟨_, rfl⟩
          rw [hd2] at HCy
          have Hd2 := Lib.hid hd2
          clear hd2
          have hbk := DC.of HM1.out.bY; have p0 := hbk.c0; have p1 := hbk.c1; have p2 := hbk.c2; have p3 := hbk.c3; have p4 := hbk.c4; have pf0 := hbk.f 0; have pf1 := hbk.f 1; have pf2 := hbk.f 2; have pf3 := hbk.f 3; have pf4 := hbk.f 4; clear hbk
          go_upto_region 22 with (first
            | (go_at_call 20
               refine (HCy.out _ (Below.refl _ _)).mono ?_
               rintro e wc ⟨q2, rfl, hown, hb3⟩
               have HM2 := Lib.hid (HM1.out.putY hb3 hown)
               have hbk := DC.of (HM1.out.below hb3).bY; have z0 := hbk.c0; have z1 := hbk.c1; have z2 := hbk.c2; have z3 := hbk.c3; have z4 := hbk.c4; have zf0 := hbk.f 0; have zf1 := hbk.f 1; have zf2 := hbk.f 2; have zf3 := hbk.f 3; have zf4 := hbk.f 4; clear hbk
               clear hown hb3)
            | fail)
          clear p0 p1 p2 p3 p4 pf0 pf1 pf2 pf3 pf4
          clear z0 z1 z2 z3 z4 zf0 zf1 zf2 zf3 zf4
          generalize (((((wc.setCell ⟨Y, 0, none⟩ (.int .i64 d2.st)).setCell ⟨Y, 1, none⟩ (.slice q2.a1 d2.se.length q2.c1)).setCell ⟨Y, 2, none⟩ (.slice q2.a2 d2.sd.length q2.c2)).setCell ⟨Y, 3, none⟩ (.slice q2.a3 d2.sx.length q2.c3)).setCell ⟨Y, 4, none⟩ (.slice q2.a4 d2.rv.length q2.c4)) = wd at *
          clear HM1 HCy
          go_wp2
          go_loopw [11, 13, 16] (fun e f i wr => ∃ (j : Nat) (qx qy : DV) (dx dy : Dr), j ≤ n ∧ i = .int .i64 (j : Int) ∧ e = .int .i64 0 ∧ f = .int .i64 0 ∧ dx = oD 2 n l k (upB j) ∧ dy = oD 2 n l k (dnB n j) ∧ OS w wr G X Y qx dx qy dy (.slice (some ⟨bU, 0, none⟩) n cU) (.slice (some ⟨bV, 0, none⟩) n cV) l k) (fun _ _ i _ => (n - intOf i).toNat)
          case atStart => exact ⟨0, q1, q2, d1, d2, Nat.zero_le _, rfl, rfl, rfl, Hd1.out.symm, Hd2.out.symm, HM2.out⟩
          case round =>
            obtain ⟨j, qx, qy, dx, dy, hj, rfl, rfl, rfl, hdx, hdy, hos⟩ := hrel
            have HM := Lib.hid hos
            have Hdx := Lib.hid hdx
            have Hdy := Lib.hid hdy
            have Hsx : Hid dx.small := Lib.hid (by rw [hdx]; exact (lens_oD 2 n l k _).small hn4)
            have Hsy : Hid dy.small := Lib.hid (by rw [hdy]; exact (lens_oD 2 n l k _).small hn4)
            clear hos hdx hdy HM2 Hd1 Hd2
            by_cases hjn : j < n
            · have hjn' : (j : Int) < (n : Int) := by omega
              obtain ⟨p, hp⟩ : ∃ p : Nat, p + j + 1 = n := ⟨n - 1 - j, by omega⟩
              have hpp : (n : Int) - 1 - (j : Int) = (p : Int) := by omega
              have hpn : (p : Int) < (n : Int) := by omega
              have Hjl : Hid (j < l.length) := Lib.hid (by rw [Hle.out]; exact hjn)
              have Hjk : Hid (j < k.length) := Lib.hid (by rw [Hkl2.out]; exact hjn)
              have Hpl : Hid (p < l.length) := Lib.hid (by rw [Hle.out]; omega)
              have Hpk : Hid (p < k.length) := Lib.hid (by rw [Hkl2.out]; omega)
              have Hcx : Hid (revealD dx (j : Int) (l.getD j 0) (k.getD j 0) = (oD 2 n l k (upB (j + 1)), 0)) := Lib.hid (by rw [Hdx.out]; exact rev_x hn1 hn4 hjn)
              have Hcy : Hid (revealD dy (p : Int) (l.getD p 0) (k.getD p 0) = (oD 2 n l k (dnB n (j + 1)), 0)) := Lib.hid (by rw [Hdy.out]; exact rev_y hn1 hn4 hp)
              have Hrf : Hid (∀ s t, sealI (j : Int) s t ≠ sealI (j : Int) (l.getD j 0) (k.getD j 0) → revealD dx (j : Int) s t = (dx, 62)) := Lib.hid (fun s t h => by rw [Hdx.out]; exact oD_refuse l k (upB j) hn1 hn4 j hjn (by simp [upB]) s t h)
              have HcUa : Hid (∀ (W : World) (qx qy : DV) (dx dy : Dr), OS w W G X Y qx dx qy dy (.slice (some ⟨bU, 0, none⟩) n cU) (.slice (some ⟨bV, 0, none⟩) n cV) l k → W.cell? ⟨bU, j, none⟩ = some (.int .u64 (l.getD j 0))) := Lib.hid (fun W qx qy dx dy h => own_nth h.o1 Hjl.out)
              have HcVa : Hid (∀ (W : World) (qx qy : DV) (dx dy : Dr), OS w W G X Y qx dx qy dy (.slice (some ⟨bU, 0, none⟩) n cU) (.slice (some ⟨bV, 0, none⟩) n cV) l k → W.cell? ⟨bV, j, none⟩ = some (.int .u64 (k.getD j 0))) := Lib.hid (fun W qx qy dx dy h => own_nth h.o2 Hjk.out)
              have HcUb : Hid (∀ (W : World) (qx qy : DV) (dx dy : Dr), OS w W G X Y qx dx qy dy (.slice (some ⟨bU, 0, none⟩) n cU) (.slice (some ⟨bV, 0, none⟩) n cV) l k → W.cell? ⟨bU, p, none⟩ = some (.int .u64 (l.getD p 0))) := Lib.hid (fun W qx qy dx dy h => own_nth h.o1 Hpl.out)
              have HcVb : Hid (∀ (W : World) (qx qy : DV) (dx dy : Dr), OS w W G X Y qx dx qy dy (.slice (some ⟨bU, 0, none⟩) n cU) (.slice (some ⟨bV, 0, none⟩) n cV) l k → W.cell? ⟨bV, p, none⟩ = some (.int .u64 (k.getD p 0))) := Lib.hid (fun W qx qy dx dy h => own_nth h.o2 Hpk.out)
              obtain ⟨sa, hsa⟩ : ∃ x, l.getD j 0 = x := ⟨_, rfl⟩
              obtain ⟨ta, hta⟩ : ∃ x, k.getD j 0 = x := ⟨_, rfl⟩
              obtain ⟨sb, hsb⟩ : ∃ x, l.getD p 0 = x := ⟨_, rfl⟩
              obtain ⟨tb, htb⟩ : ∃ x, k.getD p 0 = x := ⟨_, rfl⟩
              simp only [hsa, hta, hsb, htb] at Hcx Hcy Hrf HcUa HcVa HcUb HcVb
              clear hsa hta hsb htb
              obtain ⟨d1, hd1⟩ : ∃ x, oD 2 n l k (upB (j + 1)) = x := ⟨_, rfl⟩
              obtain ⟨d2, hd2⟩ : ∃ x, oD 2 n l k (dnB n (j + 1)) = x := ⟨_, rfl⟩
              rw [hd1] at Hcx
              rw [hd2] at Hcy
              have Hd1 := Lib.hid hd1
              have Hd2 := Lib.hid hd2
              obtain ⟨so, hso⟩ : ∃ x, bits BinOp.xor IntKind.u64 sa o = x := ⟨_, rfl⟩
              obtain ⟨s1, hs1⟩ : ∃ x, sealI (j : Int) so ta = x := ⟨_, rfl⟩
              obtain ⟨s2, hs2⟩ : ∃ x, sealI (j : Int) sa ta = x := ⟨_, rfl⟩
              have HSo : Hid (∀ W, Calls Try.prog 33 #[.int .i64 (j : Int), .int .u64 (bits BinOp.xor IntKind.u64 sa o), .int .u64 ta] W fun e w' => e = .returned (.int .u64 s1) ∧ w' = W) := Lib.hid (fun W => by have := seal_any (j : Int) so ta W; rw [hs1] at this; rw [hso]; exact this)
              have HSs : Hid (∀ W, Calls Try.prog 33 #[.int .i64 (j : Int), .int .u64 sa, .int .u64 ta] W fun e w' => e = .returned (.int .u64 s2) ∧ w' = W) := Lib.hid (fun W => by have := seal_any (j : Int) sa ta W; rw [hs2] at this; exact this)
              have Hrf2 : Hid (s1 ≠ s2 → revealD dx (j : Int) (bits BinOp.xor IntKind.u64 sa o) ta = (dx, 62)) := Lib.hid (fun h => Hrf.out _ _ (by rw [hso, hs1, hs2]; exact h))
              clear hd1 hd2 hso hs1 hs2 Hrf
              go_upto_region 26 with fail
              have HX1 := Lib.hid (HM.out.below (Below.drew (Below.refl _ _)))
              have ca : wr.drew.cell? ⟨bU, j, none⟩ = some (.int .u64 sa) := HcUa.out _ _ _ _ _ HX1.out
              have cb : wr.drew.cell? ⟨bV, j, none⟩ = some (.int .u64 ta) := HcVa.out _ _ _ _ _ HX1.out
              go_region_held3 (fun w' => w'.cell? ⟨bU, j, none⟩ = some (.int .u64 sa) ∧ w'.cell? ⟨bV, j, none⟩ = some (.int .u64 ta)) (first | go_keep | ((repeat' apply And.intro) <;> go_keep))
                (first
                  | (go_at_call 33; (with_reducible refine (HSo.out _).mono ?_); rintro e wz ⟨rfl, rfl⟩)
                  | (go_at_call 33; (with_reducible refine (HSs.out _).mono ?_); rintro e wz ⟨rfl, rfl⟩)
                  | fail)
              clear ca cb HSo HSs
              obtain ⟨wp, hwp⟩ : ∃ x, wr.drew = x := ⟨_, rfl⟩
              rw [hwp] at HX1 ⊢
              clear hwp HM
              by_cases hss : s1 = s2
              · subst hss
                clear Hrf2
                go_upto_region 30 with fail
                obtain ⟨wn, rfl⟩ : ∃ x : World, x = wp := ⟨_, rfl⟩
                have HMn := Lib.hid HX1.out
                clear HX1
                have hwnl := HMn.out.YW
                have HX1 := Lib.hid (HMn.out.below (Below.drew (Below.refl _ _)))
                have ca : wn.drew.cell? ⟨bU, j, none⟩ = some (.int .u64 sa) := HcUa.out _ _ _ _ _ HX1.out
                have cb : wn.drew.cell? ⟨bV, j, none⟩ = some (.int .u64 ta) := HcVa.out _ _ _ _ _ HX1.out
                have hbk := DC.of HX1.out.bx; have p0 := hbk.c0; have p1 := hbk.c1; have p2 := hbk.c2; have p3 := hbk.c3; have p4 := hbk.c4; have pf0 := hbk.f 0; have pf1 := hbk.f 1; have pf2 := hbk.f 2; have pf3 := hbk.f 3; have pf4 := hbk.f 4; clear hbk
                have HC : Hid (∀ W, W = wn.drew → Calls Try.prog 22 #[.agg #[.int .i64 dx.st, .slice qx.a1 dx.se.length qx.c1, .slice qx.a2 dx.sd.length qx.c2, .slice qx.a3 dx.sx.length qx.c3, .slice qx.a4 dx.rv.length qx.c4], .int .i64 (j : Int), .int .u64 sa, .int .u64 ta] W (DrEPost W (d1, 0))) := Lib.hid (fun W hW => by have := reveal_any qx dx (j : Int) sa ta W (by rw [hW]; exact HX1.out.rx.at) Hsx.out; rw [Hcx.out] at this; exact this)
                refine wp_region_held_two (S := (fun w' : World => w'.cell? ⟨X, 0, none⟩ = some (.int .i64 dx.st) ∧ w'.cell? ⟨X, 1, none⟩ = some (.slice qx.a1 dx.se.length qx.c1) ∧ w'.cell? ⟨X, 2, none⟩ = some (.slice qx.a2 dx.sd.length qx.c2) ∧ w'.cell? ⟨X, 3, none⟩ = some (.slice qx.a3 dx.sx.length qx.c3) ∧ w'.cell? ⟨X, 4, none⟩ = some (.slice qx.a4 dx.rv.length qx.c4) ∧ w'.cell? ⟨bU, j, none⟩ = some (.int .u64 sa) ∧ w'.cell? ⟨bV, j, none⟩ = some (.int .u64 ta))) 11 (by kernel_rfl) (by kernel_rfl) ?_
                have hHeld : (fun w' : World => w'.cell? ⟨X, 0, none⟩ = some (.int .i64 dx.st) ∧ w'.cell? ⟨X, 1, none⟩ = some (.slice qx.a1 dx.se.length qx.c1) ∧ w'.cell? ⟨X, 2, none⟩ = some (.slice qx.a2 dx.sd.length qx.c2) ∧ w'.cell? ⟨X, 3, none⟩ = some (.slice qx.a3 dx.sx.length qx.c3) ∧ w'.cell? ⟨X, 4, none⟩ = some (.slice qx.a4 dx.rv.length qx.c4) ∧ w'.cell? ⟨bU, j, none⟩ = some (.int .u64 sa) ∧ w'.cell? ⟨bV, j, none⟩ = some (.int .u64 ta)) wn.drew := ⟨p0, p1, p2, p3, p4, ca, cb⟩
                simp only [List.take_succ_cons, List.take_zero, List.replicate]
                refine wpAnyH_take (i := 0) (v := ?vve0) rfl (by kernel_rfl) (by kernel_rfl) (by kernel_rfl) (fun _ _ _ h => h) (Or.inl ⟨by rfl, ?hye0⟩) hHeld ?reste0; (case hye0 => (intro w hSw; (try dsimp only at hSw); go_simp; all_goals (with_reducible rfl))); simp only [Act.put, List.setIfInBounds_toArray, List.set_cons_zero, List.set_cons_succ]
                refine wpAnyH_take (i := 1) (v := ?vve1) rfl (by kernel_rfl) (by kernel_rfl) (by kernel_rfl) (fun _ _ _ h => h) (Or.inl ⟨by rfl, ?hye1⟩) hHeld ?reste1; (case hye1 => (intro w hSw; (try dsimp only at hSw); go_simp; all_goals (with_reducible rfl))); simp only [Act.put, List.setIfInBounds_toArray, List.set_cons_zero, List.set_cons_succ]
                refine wpAnyH_take (i := 2) (v := ?vve2) rfl (by kernel_rfl) (by kernel_rfl) (by kernel_rfl) (fun _ _ _ h => h) (Or.inl ⟨by rfl, ?hye2⟩) hHeld ?reste2; (case hye2 => (intro w hSw; (try dsimp only at hSw); go_simp; all_goals (with_reducible rfl))); simp only [Act.put, List.setIfInBounds_toArray, List.set_cons_zero, List.set_cons_succ]
                refine wpAnyH_take (i := 3) (v := ?vve3) rfl (by kernel_rfl) (by kernel_rfl) (by kernel_rfl) (fun _ _ _ h => h) (Or.inl ⟨by rfl, ?hye3⟩) hHeld ?reste3; (case hye3 => (intro w hSw; (try dsimp only at hSw); go_simp; all_goals (with_reducible rfl))); simp only [Act.put, List.setIfInBounds_toArray, List.set_cons_zero, List.set_cons_succ]
                refine wpAnyH_take (i := 4) (v := ?vve4) rfl (by kernel_rfl) (by kernel_rfl) (by kernel_rfl) (fun _ _ _ h => h) (Or.inl ⟨by rfl, ?hye4⟩) hHeld ?reste4; (case hye4 => (intro w hSw; (try dsimp only at hSw); go_simp; all_goals (with_reducible rfl))); simp only [Act.put, List.setIfInBounds_toArray, List.set_cons_zero, List.set_cons_succ]
                refine wpAnyH_take (i := 5) (v := ?vve5) rfl (by kernel_rfl) (by kernel_rfl) (by kernel_rfl) (fun _ _ _ h => h) (Or.inl ⟨by rfl, ?hye5⟩) hHeld ?reste5; (case hye5 => (intro w hSw; (try dsimp only at hSw); go_simp; all_goals (with_reducible rfl))); simp only [Act.put, List.setIfInBounds_toArray, List.set_cons_zero, List.set_cons_succ]
                refine wpAnyH_take (i := 6) (v := ?vve6) rfl (by kernel_rfl) (by kernel_rfl) (by kernel_rfl) (fun _ _ _ h => h) (Or.inl ⟨by rfl, ?hye6⟩) hHeld ?reste6; (case hye6 => (intro w hSw; (try dsimp only at hSw); go_simp; all_goals (with_reducible rfl))); simp only [Act.put, List.setIfInBounds_toArray, List.set_cons_zero, List.set_cons_succ]
                refine wpAnyH_take (i := 7) (v := ?vve7) rfl (by kernel_rfl) (by kernel_rfl) (by kernel_rfl) (fun _ _ _ h => h) (Or.inl ⟨by rfl, ?hye7⟩) hHeld ?reste7; (case hye7 => (intro w hSw; (try dsimp only at hSw); go_simp; all_goals (with_reducible rfl))); simp only [Act.put, List.setIfInBounds_toArray, List.set_cons_zero, List.set_cons_succ]
                refine wpAnyH_take (i := 8) (v := ?vve8) rfl (by kernel_rfl) (by kernel_rfl) (by kernel_rfl) (fun _ _ _ h => h) (Or.inl ⟨by rfl, ?hye8⟩) hHeld ?reste8; (case hye8 => (intro w hSw; (try dsimp only at hSw); go_simp; all_goals (with_reducible rfl))); simp only [Act.put, List.setIfInBounds_toArray, List.set_cons_zero, List.set_cons_succ]
                refine wpAnyH_take (i := 9) (v := ?vve9) rfl (by kernel_rfl) (by kernel_rfl) (by kernel_rfl) (fun _ _ _ h => h) (Or.inl ⟨by rfl, ?hye9⟩) hHeld ?reste9; (case hye9 => (intro w hSw; (try dsimp only at hSw); go_simp; all_goals (with_reducible rfl))); simp only [Act.put, List.setIfInBounds_toArray, List.set_cons_zero, List.set_cons_succ]
                refine wpAnyH_ready (rs := [10]) (by kernel_rfl) (by simp) ?_; refine AllReadyH.cons rfl (fun K hK => ?_) AllReadyH.nil
                go_simp
                go_at_call 22
                refine (HC.out _ rfl).mono ?_
                rintro e wt ⟨q1, rfl, hown, hb3⟩
                have Hown := Lib.hid hown
                have Hb3 := Lib.hid hb3
                have HX3 := Lib.hid (HX1.out.below hb3)
                have ca3 := HcUa.out _ _ _ _ _ HX3.out
                have cb3 := HcVa.out _ _ _ _ _ HX3.out
                clear hown hb3
                have hbk := DC.of HX3.out.bx; have z0 := hbk.c0; have z1 := hbk.c1; have z2 := hbk.c2; have z3 := hbk.c3; have z4 := hbk.c4; have zf0 := hbk.f 0; have zf1 := hbk.f 1; have zf2 := hbk.f 2; have zf3 := hbk.f 3; have zf4 := hbk.f 4; clear hbk
                refine hK.out _ _ ⟨z0, z1, z2, z3, z4, ca3, cb3⟩ (fun hHeld => ?_)
                clear hK K hHeld
                (try simp only [Act.put, List.setIfInBounds_toArray, List.set_cons_zero, List.set_cons_succ])
                refine wpAnyH_done (by kernel_rfl) ?_ _
                show wpAnyH _ _ _ _ _ _ _ _ _
                have hHeld : (fun _ : World => True) wt := trivial
                refine wpAnyH_take (i := 11) (v := ?vve11) rfl (by kernel_rfl) (by kernel_rfl) (by kernel_rfl) (fun _ _ _ h => h) (Or.inl ⟨by rfl, ?hye11⟩) hHeld ?reste11; (case hye11 => (intro w hSw; (try dsimp only at hSw); go_simp; all_goals (with_reducible rfl))); simp only [Act.put, List.setIfInBounds_toArray, List.set_cons_zero, List.set_cons_succ]
                refine wpAnyH_take (i := 12) (v := ?vve12) rfl (by kernel_rfl) (by kernel_rfl) (by kernel_rfl) (fun _ _ _ h => h) (Or.inl ⟨by rfl, ?hye12⟩) hHeld ?reste12; (case hye12 => (intro w hSw; (try dsimp only at hSw); go_simp; all_goals (with_reducible rfl))); simp only [Act.put, List.setIfInBounds_toArray, List.set_cons_zero, List.set_cons_succ]
                refine wpAnyH_take (i := 13) (v := ?vve13) rfl (by kernel_rfl) (by kernel_rfl) (by kernel_rfl) (fun _ _ _ h => h) (Or.inl ⟨by rfl, ?hye13⟩) hHeld ?reste13; (case hye13 => (intro w hSw; (try dsimp only at hSw); go_simp; all_goals (with_reducible rfl))); simp only [Act.put, List.setIfInBounds_toArray, List.set_cons_zero, List.set_cons_succ]
                refine wpAnyH_ready (rs := [14]) (by kernel_rfl) (by simp) ?_; refine AllReadyH.cons rfl (fun K hK => ?_) AllReadyH.nil
                go_simp
                go_wp2_with fail
                refine hK.out _ _ trivial (fun hHeld => ?_)
                clear hK K
                (try simp only [Act.put, List.setIfInBounds_toArray, List.set_cons_zero, List.set_cons_succ])
                refine wpAnyH_take (i := 15) (v := ?vve15) rfl (by kernel_rfl) (by kernel_rfl) (by kernel_rfl) (fun _ _ _ h => h) (Or.inl ⟨by rfl, ?hye15⟩) hHeld ?reste15; (case hye15 => (intro w hSw; (try dsimp only at hSw); go_simp; all_goals (with_reducible rfl))); simp only [Act.put, List.setIfInBounds_toArray, List.set_cons_zero, List.set_cons_succ]
                refine wpAnyH_done (by kernel_rfl) ?_ _
                clear hHeld
                have HM1 := Lib.hid (HX1.out.putX Hb3.out Hown.out)
                clear p0 p1 p2 p3 p4 pf0 pf1 pf2 pf3 pf4
                clear z0 z1 z2 z3 z4 zf0 zf1 zf2 zf3 zf4
                clear ca cb ca3 cb3
                skip
                generalize (((((wt.setCell ⟨X, 0, none⟩ (.int .i64 d1.st)).setCell ⟨X, 1, none⟩ (.slice q1.a1 d1.se.length q1.c1)).setCell ⟨X, 2, none⟩ (.slice q1.a2 d1.sd.length q1.c2)).setCell ⟨X, 3, none⟩ (.slice q1.a3 d1.sx.length q1.c3)).setCell ⟨X, 4, none⟩ (.slice q1.a4 d1.rv.length q1.c4)) = wa at *
                clear HX1 HX3 Hown Hb3 HC
                go_upto_region 31 with fail
                have HX1 := Lib.hid (HM1.out.below (Below.drew (Below.refl _ _)))
                have ca : wa.drew.cell? ⟨bU, p, none⟩ = some (.int .u64 sb) := HcUb.out _ _ _ _ _ HX1.out
                have cb : wa.drew.cell? ⟨bV, p, none⟩ = some (.int .u64 tb) := HcVb.out _ _ _ _ _ HX1.out
                have hbk := DC.of HX1.out.bY; have p0 := hbk.c0; have p1 := hbk.c1; have p2 := hbk.c2; have p3 := hbk.c3; have p4 := hbk.c4; have pf0 := hbk.f 0; have pf1 := hbk.f 1; have pf2 := hbk.f 2; have pf3 := hbk.f 3; have pf4 := hbk.f 4; clear hbk
                have HC : Hid (∀ W, W = wa.drew → Calls Try.prog 22 #[.agg #[.int .i64 dy.st, .slice qy.a1 dy.se.length qy.c1, .slice qy.a2 dy.sd.length qy.c2, .slice qy.a3 dy.sx.length qy.c3, .slice qy.a4 dy.rv.length qy.c4], .int .i64 (p : Int), .int .u64 sb, .int .u64 tb] W (DrEPost W (d2, 0))) := Lib.hid (fun W hW => by have := reveal_any qy dy (p : Int) sb tb W (by rw [hW]; exact HX1.out.ry.at) Hsy.out; rw [Hcy.out] at this; exact this)
                refine wp_region_held_two (S := (fun w' : World => w'.cell? ⟨Y, 0, none⟩ = some (.int .i64 dy.st) ∧ w'.cell? ⟨Y, 1, none⟩ = some (.slice qy.a1 dy.se.length qy.c1) ∧ w'.cell? ⟨Y, 2, none⟩ = some (.slice qy.a2 dy.sd.length qy.c2) ∧ w'.cell? ⟨Y, 3, none⟩ = some (.slice qy.a3 dy.sx.length qy.c3) ∧ w'.cell? ⟨Y, 4, none⟩ = some (.slice qy.a4 dy.rv.length qy.c4) ∧ w'.cell? ⟨bU, p, none⟩ = some (.int .u64 sb) ∧ w'.cell? ⟨bV, p, none⟩ = some (.int .u64 tb))) 11 (by kernel_rfl) (by kernel_rfl) ?_
                have hHeld : (fun w' : World => w'.cell? ⟨Y, 0, none⟩ = some (.int .i64 dy.st) ∧ w'.cell? ⟨Y, 1, none⟩ = some (.slice qy.a1 dy.se.length qy.c1) ∧ w'.cell? ⟨Y, 2, none⟩ = some (.slice qy.a2 dy.sd.length qy.c2) ∧ w'.cell? ⟨Y, 3, none⟩ = some (.slice qy.a3 dy.sx.length qy.c3) ∧ w'.cell? ⟨Y, 4, none⟩ = some (.slice qy.a4 dy.rv.length qy.c4) ∧ w'.cell? ⟨bU, p, none⟩ = some (.int .u64 sb) ∧ w'.cell? ⟨bV, p, none⟩ = some (.int .u64 tb)) wa.drew := ⟨p0, p1, p2, p3, p4, ca, cb⟩
                simp only [List.take_succ_cons, List.take_zero, List.replicate]
                refine wpAnyH_take (i := 0) (v := ?vvf0) rfl (by kernel_rfl) (by kernel_rfl) (by kernel_rfl) (fun _ _ _ h => h) (Or.inl ⟨by rfl, ?hyf0⟩) hHeld ?restf0; (case hyf0 => (intro w hSw; (try dsimp only at hSw); go_simp; all_goals (with_reducible rfl))); simp only [Act.put, List.setIfInBounds_toArray, List.set_cons_zero, List.set_cons_succ]
                refine wpAnyH_take (i := 1) (v := ?vvf1) rfl (by kernel_rfl) (by kernel_rfl) (by kernel_rfl) (fun _ _ _ h => h) (Or.inl ⟨by rfl, ?hyf1⟩) hHeld ?restf1; (case hyf1 => (intro w hSw; (try dsimp only at hSw); go_simp; all_goals (with_reducible rfl))); simp only [Act.put, List.setIfInBounds_toArray, List.set_cons_zero, List.set_cons_succ]
                refine wpAnyH_take (i := 2) (v := ?vvf2) rfl (by kernel_rfl) (by kernel_rfl) (by kernel_rfl) (fun _ _ _ h => h) (Or.inl ⟨by rfl, ?hyf2⟩) hHeld ?restf2; (case hyf2 => (intro w hSw; (try dsimp only at hSw); go_simp; all_goals (with_reducible rfl))); simp only [Act.put, List.setIfInBounds_toArray, List.set_cons_zero, List.set_cons_succ]
                refine wpAnyH_take (i := 3) (v := ?vvf3) rfl (by kernel_rfl) (by kernel_rfl) (by kernel_rfl) (fun _ _ _ h => h) (Or.inl ⟨by rfl, ?hyf3⟩) hHeld ?restf3; (case hyf3 => (intro w hSw; (try dsimp only at hSw); go_simp; all_goals (with_reducible rfl))); simp only [Act.put, List.setIfInBounds_toArray, List.set_cons_zero, List.set_cons_succ]
                refine wpAnyH_take (i := 4) (v := ?vvf4) rfl (by kernel_rfl) (by kernel_rfl) (by kernel_rfl) (fun _ _ _ h => h) (Or.inl ⟨by rfl, ?hyf4⟩) hHeld ?restf4; (case hyf4 => (intro w hSw; (try dsimp only at hSw); go_simp; all_goals (with_reducible rfl))); simp only [Act.put, List.setIfInBounds_toArray, List.set_cons_zero, List.set_cons_succ]
                refine wpAnyH_take (i := 5) (v := ?vvf5) rfl (by kernel_rfl) (by kernel_rfl) (by kernel_rfl) (fun _ _ _ h => h) (Or.inl ⟨by rfl, ?hyf5⟩) hHeld ?restf5; (case hyf5 => (intro w hSw; (try dsimp only at hSw); go_simp; all_goals (with_reducible rfl))); simp only [Act.put, List.setIfInBounds_toArray, List.set_cons_zero, List.set_cons_succ]
                refine wpAnyH_take (i := 6) (v := ?vvf6) rfl (by kernel_rfl) (by kernel_rfl) (by kernel_rfl) (fun _ _ _ h => h) (Or.inl ⟨by rfl, ?hyf6⟩) hHeld ?restf6; (case hyf6 => (intro w hSw; (try dsimp only at hSw); go_simp; all_goals (with_reducible rfl))); simp only [Act.put, List.setIfInBounds_toArray, List.set_cons_zero, List.set_cons_succ]
                refine wpAnyH_take (i := 7) (v := ?vvf7) rfl (by kernel_rfl) (by kernel_rfl) (by kernel_rfl) (fun _ _ _ h => h) (Or.inl ⟨by rfl, ?hyf7⟩) hHeld ?restf7; (case hyf7 => (intro w hSw; (try dsimp only at hSw); go_simp; all_goals (with_reducible rfl))); simp only [Act.put, List.setIfInBounds_toArray, List.set_cons_zero, List.set_cons_succ]
                refine wpAnyH_take (i := 8) (v := ?vvf8) rfl (by kernel_rfl) (by kernel_rfl) (by kernel_rfl) (fun _ _ _ h => h) (Or.inl ⟨by rfl, ?hyf8⟩) hHeld ?restf8; (case hyf8 => (intro w hSw; (try dsimp only at hSw); go_simp; all_goals (with_reducible rfl))); simp only [Act.put, List.setIfInBounds_toArray, List.set_cons_zero, List.set_cons_succ]
                refine wpAnyH_take (i := 9) (v := ?vvf9) rfl (by kernel_rfl) (by kernel_rfl) (by kernel_rfl) (fun _ _ _ h => h) (Or.inl ⟨by rfl, ?hyf9⟩) hHeld ?restf9; (case hyf9 => (intro w hSw; (try dsimp only at hSw); go_simp; all_goals (with_reducible rfl))); simp only [Act.put, List.setIfInBounds_toArray, List.set_cons_zero, List.set_cons_succ]
                refine wpAnyH_ready (rs := [10]) (by kernel_rfl) (by simp) ?_; refine AllReadyH.cons rfl (fun K hK => ?_) AllReadyH.nil
                go_simp
                go_at_call 22
                refine (HC.out _ rfl).mono ?_
                rintro e wt ⟨q2, rfl, hown, hb3⟩
                have Hown := Lib.hid hown
                have Hb3 := Lib.hid hb3
                have HX3 := Lib.hid (HX1.out.below hb3)
                have ca3 := HcUb.out _ _ _ _ _ HX3.out
                have cb3 := HcVb.out _ _ _ _ _ HX3.out
                clear hown hb3
                have hbk := DC.of HX3.out.bY; have z0 := hbk.c0; have z1 := hbk.c1; have z2 := hbk.c2; have z3 := hbk.c3; have z4 := hbk.c4; have zf0 := hbk.f 0; have zf1 := hbk.f 1; have zf2 := hbk.f 2; have zf3 := hbk.f 3; have zf4 := hbk.f 4; clear hbk
                refine hK.out _ _ ⟨z0, z1, z2, z3, z4, ca3, cb3⟩ (fun hHeld => ?_)
                clear hK K hHeld
                (try simp only [Act.put, List.setIfInBounds_toArray, List.set_cons_zero, List.set_cons_succ])
                refine wpAnyH_done (by kernel_rfl) ?_ _
                show wpAnyH _ _ _ _ _ _ _ _ _
                have hHeld : (fun _ : World => True) wt := trivial
                refine wpAnyH_take (i := 11) (v := ?vvf11) rfl (by kernel_rfl) (by kernel_rfl) (by kernel_rfl) (fun _ _ _ h => h) (Or.inl ⟨by rfl, ?hyf11⟩) hHeld ?restf11; (case hyf11 => (intro w hSw; (try dsimp only at hSw); go_simp; all_goals (with_reducible rfl))); simp only [Act.put, List.setIfInBounds_toArray, List.set_cons_zero, List.set_cons_succ]
                refine wpAnyH_take (i := 12) (v := ?vvf12) rfl (by kernel_rfl) (by kernel_rfl) (by kernel_rfl) (fun _ _ _ h => h) (Or.inl ⟨by rfl, ?hyf12⟩) hHeld ?restf12; (case hyf12 => (intro w hSw; (try dsimp only at hSw); go_simp; all_goals (with_reducible rfl))); simp only [Act.put, List.setIfInBounds_toArray, List.set_cons_zero, List.set_cons_succ]
                refine wpAnyH_take (i := 13) (v := ?vvf13) rfl (by kernel_rfl) (by kernel_rfl) (by kernel_rfl) (fun _ _ _ h => h) (Or.inl ⟨by rfl, ?hyf13⟩) hHeld ?restf13; (case hyf13 => (intro w hSw; (try dsimp only at hSw); go_simp; all_goals (with_reducible rfl))); simp only [Act.put, List.setIfInBounds_toArray, List.set_cons_zero, List.set_cons_succ]
                refine wpAnyH_ready (rs := [14]) (by kernel_rfl) (by simp) ?_; refine AllReadyH.cons rfl (fun K hK => ?_) AllReadyH.nil
                go_simp
                go_wp2_with fail
                refine hK.out _ _ trivial (fun hHeld => ?_)
                clear hK K
                (try simp only [Act.put, List.setIfInBounds_toArray, List.set_cons_zero, List.set_cons_succ])
                refine wpAnyH_take (i := 15) (v := ?vvf15) rfl (by kernel_rfl) (by kernel_rfl) (by kernel_rfl) (fun _ _ _ h => h) (Or.inl ⟨by rfl, ?hyf15⟩) hHeld ?restf15; (case hyf15 => (intro w hSw; (try dsimp only at hSw); go_simp; all_goals (with_reducible rfl))); simp only [Act.put, List.setIfInBounds_toArray, List.set_cons_zero, List.set_cons_succ]
                refine wpAnyH_done (by kernel_rfl) ?_ _
                clear hHeld
                have HM2 := Lib.hid (HX1.out.putY Hb3.out Hown.out)
                clear p0 p1 p2 p3 p4 pf0 pf1 pf2 pf3 pf4
                clear z0 z1 z2 z3 z4 zf0 zf1 zf2 zf3 zf4
                clear ca cb ca3 cb3
                skip
                generalize (((((wt.setCell ⟨Y, 0, none⟩ (.int .i64 d2.st)).setCell ⟨Y, 1, none⟩ (.slice q2.a1 d2.se.length q2.c1)).setCell ⟨Y, 2, none⟩ (.slice q2.a2 d2.sd.length q2.c2)).setCell ⟨Y, 3, none⟩ (.slice q2.a3 d2.sx.length q2.c3)).setCell ⟨Y, 4, none⟩ (.slice q2.a4 d2.rv.length q2.c4)) = wb at *
                clear HX1 HX3 Hown Hb3 HC
                go_wp2
                go_roundw
                case rel => exact ⟨j + 1, q1, q2, d1, d2, by omega, by go_num, rfl, rfl, Hd1.out.symm, Hd2.out.symm, HM2.out⟩
                case measure => simp [intOf]; omega
              · have Hrv := Lib.hid (Hrf2.out hss)
                have HC : Hid (∀ W, Below wp.heap.size wp W → Calls Try.prog 22 #[.agg #[.int .i64 dx.st, .slice qx.a1 dx.se.length qx.c1, .slice qx.a2 dx.sd.length qx.c2, .slice qx.a3 dx.sx.length qx.c3, .slice qx.a4 dx.rv.length qx.c4], .int .i64 (j : Int), .int .u64 (bits BinOp.xor IntKind.u64 sa o), .int .u64 ta] W (DrEPost W (dx, 62))) := Lib.hid (fun W hW => by have := reveal_any qx dx (j : Int) (bits BinOp.xor IntKind.u64 sa o) ta W (HX1.out.rx.at.below hW) Hsx.out; rw [Hrv.out] at this; exact this)
                clear Hrf2
                go_upto_region 27 with fail
                have HX2 := Lib.hid (HX1.out.below (Below.drew (Below.refl _ _)))
                have ca : wp.drew.cell? ⟨bU, j, none⟩ = some (.int .u64 sa) := HcUa.out _ _ _ _ _ HX2.out
                have cb : wp.drew.cell? ⟨bV, j, none⟩ = some (.int .u64 ta) := HcVa.out _ _ _ _ _ HX2.out
                have hbk := DC.of HX2.out.bx; have p0 := hbk.c0; have p1 := hbk.c1; have p2 := hbk.c2; have p3 := hbk.c3; have p4 := hbk.c4; have pf0 := hbk.f 0; have pf1 := hbk.f 1; have pf2 := hbk.f 2; have pf3 := hbk.f 3; have pf4 := hbk.f 4; clear hbk
                have HXa := Lib.hid (HX1.out.below (Below.drew ((Below.refl _ _).alloc (Nat.le_refl _) (.cells #[.int .i64 0, .slice none 0 0, .slice none 0 0, .slice none 0 0, .slice none 0 0] 26))))
                have caa := HcUa.out _ _ _ _ _ HXa.out
                have cba := HcVa.out _ _ _ _ _ HXa.out
                have hbk := DC.of HXa.out.bx; have a0 := hbk.c0; have a1 := hbk.c1; have a2 := hbk.c2; have a3 := hbk.c3; have a4 := hbk.c4; have af0 := hbk.f 0; have af1 := hbk.f 1; have af2 := hbk.f 2; have af3 := hbk.f 3; have af4 := hbk.f 4; clear hbk
                have hYW := HX1.out.YW
                have hXY := HX1.out.XY
                have hbU : bU < wp.heap.size := (HX1.out.o1.lt bU rfl).2
                have hbV : bV < wp.heap.size := (HX1.out.o2.lt bV rfl).2
                go_region_held3 (fun w' : World => w'.cell? ⟨X, 0, none⟩ = some (.int .i64 dx.st) ∧ w'.cell? ⟨X, 1, none⟩ = some (.slice qx.a1 dx.se.length qx.c1) ∧ w'.cell? ⟨X, 2, none⟩ = some (.slice qx.a2 dx.sd.length qx.c2) ∧ w'.cell? ⟨X, 3, none⟩ = some (.slice qx.a3 dx.sx.length qx.c3) ∧ w'.cell? ⟨X, 4, none⟩ = some (.slice qx.a4 dx.rv.length qx.c4) ∧ w'.cell? ⟨bU, j, none⟩ = some (.int .u64 sa) ∧ w'.cell? ⟨bV, j, none⟩ = some (.int .u64 ta)) (first | with_reducible exact ⟨p0, p1, p2, p3, p4, ca, cb⟩ | with_reducible exact ⟨a0, a1, a2, a3, a4, caa, cba⟩ | with_reducible exact ⟨z0, z1, z2, z3, z4, ca3, cb3⟩ | with_reducible exact ⟨b0, b1, b2, b3, b4, cab, cbb⟩ | with_reducible exact ⟨e0, e1, e2, e3, e4, cac, cbc⟩ | ((repeat' apply And.intro) <;> (repeat rw [World.cell?_setCell_other _ _ _ _ (by intro e; injection e; omega)]) <;> with_reducible assumption))
                  (first
                    | (go_at_call 22
                       refine (HC.out _ (by have hbq := Below.refl wp.heap.size wp; exact (by repeat' (first | with_reducible exact Below.refl _ _ | with_reducible assumption | with_reducible refine below_drewN ?_ _ | with_reducible refine Below.drew ?_ | with_reducible refine Below.alloc ?_ ?_ _ | with_reducible refine Below.setCell ?_ ?_ _ | with_reducible refine Below.trans ?_ (Below.mono (by with_reducible assumption) ?_) | with_reducible refine below_only ?_ (by with_reducible assumption) ?_ ?_ | (simp; done) | (simp; omega) | omega)))).mono ?_
                       rintro e wt ⟨q3, rfl, hown, hb3⟩
                       have Hbt : Hid (Below wp.heap.size wp wt) := Lib.hid (show Below wp.heap.size wp wt from (by have hbq := hb3; exact (by repeat' (first | with_reducible exact Below.refl _ _ | with_reducible assumption | with_reducible refine below_drewN ?_ _ | with_reducible refine Below.drew ?_ | with_reducible refine Below.alloc ?_ ?_ _ | with_reducible refine Below.setCell ?_ ?_ _ | with_reducible refine Below.trans ?_ (Below.mono (by with_reducible assumption) ?_) | with_reducible refine below_only ?_ (by with_reducible assumption) ?_ ?_ | (simp; done) | (simp; omega) | omega))))
                       have HX3 := Lib.hid (HX1.out.below Hbt.out)
                       have ca3 := HcUa.out _ _ _ _ _ HX3.out
                       have cb3 := HcVa.out _ _ _ _ _ HX3.out
                       have hbk := DC.of HX3.out.bx; have z0 := hbk.c0; have z1 := hbk.c1; have z2 := hbk.c2; have z3 := hbk.c3; have z4 := hbk.c4; have zf0 := hbk.f 0; have zf1 := hbk.f 1; have zf2 := hbk.f 2; have zf3 := hbk.f 3; have zf4 := hbk.f 4; clear hbk
                       have HX3b := Lib.hid (HX3.out.below ((Below.refl _ _).alloc (Nat.le_refl _) (.cells #[.int .i64 0, .slice none 0 0, .slice none 0 0, .slice none 0 0, .slice none 0 0] 26)))
                       have cab := HcUa.out _ _ _ _ _ HX3b.out
                       have cbb := HcVa.out _ _ _ _ _ HX3b.out
                       have hbk := DC.of HX3b.out.bx; have b0 := hbk.c0; have b1 := hbk.c1; have b2 := hbk.c2; have b3 := hbk.c3; have b4 := hbk.c4; have bf0 := hbk.f 0; have bf1 := hbk.f 1; have bf2 := hbk.f 2; have bf3 := hbk.f 3; have bf4 := hbk.f 4; clear hbk
                       have HX3c := Lib.hid (HX3.out.below ((Below.refl _ _).alloc (Nat.le_refl _) (.cells #[.int .i64 dx.st, .slice q3.a1 dx.se.length q3.c1, .slice q3.a2 dx.sd.length q3.c2, .slice q3.a3 dx.sx.length q3.c3, .slice q3.a4 dx.rv.length q3.c4] 26)))
                       have cac := HcUa.out _ _ _ _ _ HX3c.out
                       have cbc := HcVa.out _ _ _ _ _ HX3c.out
                       have hbk := DC.of HX3c.out.bx; have e0 := hbk.c0; have e1 := hbk.c1; have e2 := hbk.c2; have e3 := hbk.c3; have e4 := hbk.c4; have ef0 := hbk.f 0; have ef1 := hbk.f 1; have ef2 := hbk.f 2; have ef3 := hbk.f 3; have ef4 := hbk.f 4; clear hbk
                       first
                         | (with_reducible have hn := (hb3.block _ (by simp)).trans (heap_alloc_new wp (.cells #[.int .i64 0, .slice none 0 0, .slice none 0 0, .slice none 0 0, .slice none 0 0] 26)); have Hn := Lib.hid hn; have y0 := cell_of_row wt wp.heap.size 0 _ _ _ hn; have y1 := cell_of_row wt wp.heap.size 1 _ _ _ hn; have y2 := cell_of_row wt wp.heap.size 2 _ _ _ hn; have y3 := cell_of_row wt wp.heap.size 3 _ _ _ hn; have y4 := cell_of_row wt wp.heap.size 4 _ _ _ hn; have yf0 := frozen_of_row wt wp.heap.size 0 _ _ hn; have yf1 := frozen_of_row wt wp.heap.size 1 _ _ hn; have yf2 := frozen_of_row wt wp.heap.size 2 _ _ hn; have yf3 := frozen_of_row wt wp.heap.size 3 _ _ hn; have yf4 := frozen_of_row wt wp.heap.size 4 _ _ hn; clear hn)
                         | skip
                       have hst := Hbt.out.size
                       clear hown hb3)
                    | fail)
                all_goals go_upto_region 30 with fail
                · first
                    | (obtain ⟨wn, hwn⟩ : ∃ x, wt.alloc (.cells #[.int .i64 dx.st, .slice q3.a1 dx.se.length q3.c1, .slice q3.a2 dx.sd.length q3.c2, .slice q3.a3 dx.sx.length q3.c3, .slice q3.a4 dx.rv.length q3.c4] 26) = x := ⟨_, rfl⟩
                       have HMn : Hid (OS w wn G X Y qx dx qy dy (.slice (some ⟨bU, 0, none⟩) n cU) (.slice (some ⟨bV, 0, none⟩) n cV) l k) := Lib.hid (by rw [← hwn]; exact HX3c.out)
                       rw [hwn]
                       clear hwn)
                    | (obtain ⟨wn, hwn⟩ : ∃ x, (((((wt.setCell ⟨wp.heap.size, 0, none⟩ (.int .i64 dx.st)).setCell ⟨wp.heap.size, 1, none⟩ (.slice q3.a1 dx.se.length q3.c1)).setCell ⟨wp.heap.size, 2, none⟩ (.slice q3.a2 dx.sd.length q3.c2)).setCell ⟨wp.heap.size, 3, none⟩ (.slice q3.a3 dx.sx.length q3.c3)).setCell ⟨wp.heap.size, 4, none⟩ (.slice q3.a4 dx.rv.length q3.c4)) = x := ⟨_, rfl⟩
                       have HMn : Hid (OS w wn G X Y qx dx qy dy (.slice (some ⟨bU, 0, none⟩) n cU) (.slice (some ⟨bV, 0, none⟩) n cV) l k) := Lib.hid (by rw [← hwn]; exact HX1.out.below (box5_below Hbt.out (Nat.le_refl _)))
                       rw [hwn]
                       clear hwn)
                  clear p0 p1 p2 p3 p4 pf0 pf1 pf2 pf3 pf4 a0 a1 a2 a3 a4 af0 af1 af2 af3 af4 z0 z1 z2 z3 z4 zf0 zf1 zf2 zf3 zf4 b0 b1 b2 b3 b4 bf0 bf1 bf2 bf3 bf4 e0 e1 e2 e3 e4 ef0 ef1 ef2 ef3 ef4
                  (try clear y0 y1 y2 y3 y4 yf0 yf1 yf2 yf3 yf4 Hn)
                  clear hYW hXY hbU hbV ca cb caa cba cab cbb cac cbc ca3 cb3 HXa HX2 HX3 HX3b HX3c Hbt hst HC Hrv hss
                  clear HX1
                  have hwnl := HMn.out.YW
                  have HX1 := Lib.hid (HMn.out.below (Below.drew (Below.refl _ _)))
                  have ca : wn.drew.cell? ⟨bU, j, none⟩ = some (.int .u64 sa) := HcUa.out _ _ _ _ _ HX1.out
                  have cb : wn.drew.cell? ⟨bV, j, none⟩ = some (.int .u64 ta) := HcVa.out _ _ _ _ _ HX1.out
                  have hbk := DC.of HX1.out.bx; have p0 := hbk.c0; have p1 := hbk.c1; have p2 := hbk.c2; have p3 := hbk.c3; have p4 := hbk.c4; have pf0 := hbk.f 0; have pf1 := hbk.f 1; have pf2 := hbk.f 2; have pf3 := hbk.f 3; have pf4 := hbk.f 4; clear hbk
                  have HC : Hid (∀ W, W = wn.drew → Calls Try.prog 22 #[.agg #[.int .i64 dx.st, .slice qx.a1 dx.se.length qx.c1, .slice qx.a2 dx.sd.length qx.c2, .slice qx.a3 dx.sx.length qx.c3, .slice qx.a4 dx.rv.length qx.c4], .int .i64 (j : Int), .int .u64 sa, .int .u64 ta] W (DrEPost W (d1, 0))) := Lib.hid (fun W hW => by have := reveal_any qx dx (j : Int) sa ta W (by rw [hW]; exact HX1.out.rx.at) Hsx.out; rw [Hcx.out] at this; exact this)
                  refine wp_region_held_two (S := (fun w' : World => w'.cell? ⟨X, 0, none⟩ = some (.int .i64 dx.st) ∧ w'.cell? ⟨X, 1, none⟩ = some (.slice qx.a1 dx.se.length qx.c1) ∧ w'.cell? ⟨X, 2, none⟩ = some (.slice qx.a2 dx.sd.length qx.c2) ∧ w'.cell? ⟨X, 3, none⟩ = some (.slice qx.a3 dx.sx.length qx.c3) ∧ w'.cell? ⟨X, 4, none⟩ = some (.slice qx.a4 dx.rv.length qx.c4) ∧ w'.cell? ⟨bU, j, none⟩ = some (.int .u64 sa) ∧ w'.cell? ⟨bV, j, none⟩ = some (.int .u64 ta))) 11 (by kernel_rfl) (by kernel_rfl) ?_
                  have hHeld : (fun w' : World => w'.cell? ⟨X, 0, none⟩ = some (.int .i64 dx.st) ∧ w'.cell? ⟨X, 1, none⟩ = some (.slice qx.a1 dx.se.length qx.c1) ∧ w'.cell? ⟨X, 2, none⟩ = some (.slice qx.a2 dx.sd.length qx.c2) ∧ w'.cell? ⟨X, 3, none⟩ = some (.slice qx.a3 dx.sx.length qx.c3) ∧ w'.cell? ⟨X, 4, none⟩ = some (.slice qx.a4 dx.rv.length qx.c4) ∧ w'.cell? ⟨bU, j, none⟩ = some (.int .u64 sa) ∧ w'.cell? ⟨bV, j, none⟩ = some (.int .u64 ta)) wn.drew := ⟨p0, p1, p2, p3, p4, ca, cb⟩
                  simp only [List.take_succ_cons, List.take_zero, List.replicate]
                  refine wpAnyH_take (i := 0) (v := ?vvg0) rfl (by kernel_rfl) (by kernel_rfl) (by kernel_rfl) (fun _ _ _ h => h) (Or.inl ⟨by rfl, ?hyg0⟩) hHeld ?restg0; (case hyg0 => (intro w hSw; (try dsimp only at hSw); go_simp; all_goals (with_reducible rfl))); simp only [Act.put, List.setIfInBounds_toArray, List.set_cons_zero, List.set_cons_succ]
                  refine wpAnyH_take (i := 1) (v := ?vvg1) rfl (by kernel_rfl) (by kernel_rfl) (by kernel_rfl) (fun _ _ _ h => h) (Or.inl ⟨by rfl, ?hyg1⟩) hHeld ?restg1; (case hyg1 => (intro w hSw; (try dsimp only at hSw); go_simp; all_goals (with_reducible rfl))); simp only [Act.put, List.setIfInBounds_toArray, List.set_cons_zero, List.set_cons_succ]
                  refine wpAnyH_take (i := 2) (v := ?vvg2) rfl (by kernel_rfl) (by kernel_rfl) (by kernel_rfl) (fun _ _ _ h => h) (Or.inl ⟨by rfl, ?hyg2⟩) hHeld ?restg2; (case hyg2 => (intro w hSw; (try dsimp only at hSw); go_simp; all_goals (with_reducible rfl))); simp only [Act.put, List.setIfInBounds_toArray, List.set_cons_zero, List.set_cons_succ]
                  refine wpAnyH_take (i := 3) (v := ?vvg3) rfl (by kernel_rfl) (by kernel_rfl) (by kernel_rfl) (fun _ _ _ h => h) (Or.inl ⟨by rfl, ?hyg3⟩) hHeld ?restg3; (case hyg3 => (intro w hSw; (try dsimp only at hSw); go_simp; all_goals (with_reducible rfl))); simp only [Act.put, List.setIfInBounds_toArray, List.set_cons_zero, List.set_cons_succ]
                  refine wpAnyH_take (i := 4) (v := ?vvg4) rfl (by kernel_rfl) (by kernel_rfl) (by kernel_rfl) (fun _ _ _ h => h) (Or.inl ⟨by rfl, ?hyg4⟩) hHeld ?restg4; (case hyg4 => (intro w hSw; (try dsimp only at hSw); go_simp; all_goals (with_reducible rfl))); simp only [Act.put, List.setIfInBounds_toArray, List.set_cons_zero, List.set_cons_succ]
                  refine wpAnyH_take (i := 5) (v := ?vvg5) rfl (by kernel_rfl) (by kernel_rfl) (by kernel_rfl) (fun _ _ _ h => h) (Or.inl ⟨by rfl, ?hyg5⟩) hHeld ?restg5; (case hyg5 => (intro w hSw; (try dsimp only at hSw); go_simp; all_goals (with_reducible rfl))); simp only [Act.put, List.setIfInBounds_toArray, List.set_cons_zero, List.set_cons_succ]
                  refine wpAnyH_take (i := 6) (v := ?vvg6) rfl (by kernel_rfl) (by kernel_rfl) (by kernel_rfl) (fun _ _ _ h => h) (Or.inl ⟨by rfl, ?hyg6⟩) hHeld ?restg6; (case hyg6 => (intro w hSw; (try dsimp only at hSw); go_simp; all_goals (with_reducible rfl))); simp only [Act.put, List.setIfInBounds_toArray, List.set_cons_zero, List.set_cons_succ]
                  refine wpAnyH_take (i := 7) (v := ?vvg7) rfl (by kernel_rfl) (by kernel_rfl) (by kernel_rfl) (fun _ _ _ h => h) (Or.inl ⟨by rfl, ?hyg7⟩) hHeld ?restg7; (case hyg7 => (intro w hSw; (try dsimp only at hSw); go_simp; all_goals (with_reducible rfl))); simp only [Act.put, List.setIfInBounds_toArray, List.set_cons_zero, List.set_cons_succ]
                  refine wpAnyH_take (i := 8) (v := ?vvg8) rfl (by kernel_rfl) (by kernel_rfl) (by kernel_rfl) (fun _ _ _ h => h) (Or.inl ⟨by rfl, ?hyg8⟩) hHeld ?restg8; (case hyg8 => (intro w hSw; (try dsimp only at hSw); go_simp; all_goals (with_reducible rfl))); simp only [Act.put, List.setIfInBounds_toArray, List.set_cons_zero, List.set_cons_succ]
                  refine wpAnyH_take (i := 9) (v := ?vvg9) rfl (by kernel_rfl) (by kernel_rfl) (by kernel_rfl) (fun _ _ _ h => h) (Or.inl ⟨by rfl, ?hyg9⟩) hHeld ?restg9; (case hyg9 => (intro w hSw; (try dsimp only at hSw); go_simp; all_goals (with_reducible rfl))); simp only [Act.put, List.setIfInBounds_toArray, List.set_cons_zero, List.set_cons_succ]
                  refine wpAnyH_ready (rs := [10]) (by kernel_rfl) (by simp) ?_; refine AllReadyH.cons rfl (fun K hK => ?_) AllReadyH.nil
                  go_simp
                  go_at_call 22
                  refine (HC.out _ rfl).mono ?_
                  rintro e wt ⟨q1, rfl, hown, hb3⟩
                  have Hown := Lib.hid hown
                  have Hb3 := Lib.hid hb3
                  have HX3 := Lib.hid (HX1.out.below hb3)
                  have ca3 := HcUa.out _ _ _ _ _ HX3.out
                  have cb3 := HcVa.out _ _ _ _ _ HX3.out
                  clear hown hb3
                  have hbk := DC.of HX3.out.bx; have z0 := hbk.c0; have z1 := hbk.c1; have z2 := hbk.c2; have z3 := hbk.c3; have z4 := hbk.c4; have zf0 := hbk.f 0; have zf1 := hbk.f 1; have zf2 := hbk.f 2; have zf3 := hbk.f 3; have zf4 := hbk.f 4; clear hbk
                  refine hK.out _ _ ⟨z0, z1, z2, z3, z4, ca3, cb3⟩ (fun hHeld => ?_)
                  clear hK K hHeld
                  (try simp only [Act.put, List.setIfInBounds_toArray, List.set_cons_zero, List.set_cons_succ])
                  refine wpAnyH_done (by kernel_rfl) ?_ _
                  show wpAnyH _ _ _ _ _ _ _ _ _
                  have hHeld : (fun _ : World => True) wt := trivial
                  refine wpAnyH_take (i := 11) (v := ?vvg11) rfl (by kernel_rfl) (by kernel_rfl) (by kernel_rfl) (fun _ _ _ h => h) (Or.inl ⟨by rfl, ?hyg11⟩) hHeld ?restg11; (case hyg11 => (intro w hSw; (try dsimp only at hSw); go_simp; all_goals (with_reducible rfl))); simp only [Act.put, List.setIfInBounds_toArray, List.set_cons_zero, List.set_cons_succ]
                  refine wpAnyH_take (i := 12) (v := ?vvg12) rfl (by kernel_rfl) (by kernel_rfl) (by kernel_rfl) (fun _ _ _ h => h) (Or.inl ⟨by rfl, ?hyg12⟩) hHeld ?restg12; (case hyg12 => (intro w hSw; (try dsimp only at hSw); go_simp; all_goals (with_reducible rfl))); simp only [Act.put, List.setIfInBounds_toArray, List.set_cons_zero, List.set_cons_succ]
                  refine wpAnyH_take (i := 13) (v := ?vvg13) rfl (by kernel_rfl) (by kernel_rfl) (by kernel_rfl) (fun _ _ _ h => h) (Or.inl ⟨by rfl, ?hyg13⟩) hHeld ?restg13; (case hyg13 => (intro w hSw; (try dsimp only at hSw); go_simp; all_goals (with_reducible rfl))); simp only [Act.put, List.setIfInBounds_toArray, List.set_cons_zero, List.set_cons_succ]
                  refine wpAnyH_ready (rs := [14]) (by kernel_rfl) (by simp) ?_; refine AllReadyH.cons rfl (fun K hK => ?_) AllReadyH.nil
                  go_simp
                  go_wp2_with fail
                  refine hK.out _ _ trivial (fun hHeld => ?_)
                  clear hK K
                  (try simp only [Act.put, List.setIfInBounds_toArray, List.set_cons_zero, List.set_cons_succ])
                  refine wpAnyH_take (i := 15) (v := ?vvg15) rfl (by kernel_rfl) (by kernel_rfl) (by kernel_rfl) (fun _ _ _ h => h) (Or.inl ⟨by rfl, ?hyg15⟩) hHeld ?restg15; (case hyg15 => (intro w hSw; (try dsimp only at hSw); go_simp; all_goals (with_reducible rfl))); simp only [Act.put, List.setIfInBounds_toArray, List.set_cons_zero, List.set_cons_succ]
                  refine wpAnyH_done (by kernel_rfl) ?_ _
                  clear hHeld
                  have HM1 := Lib.hid (HX1.out.putX Hb3.out Hown.out)
                  clear p0 p1 p2 p3 p4 pf0 pf1 pf2 pf3 pf4
                  clear z0 z1 z2 z3 z4 zf0 zf1 zf2 zf3 zf4
                  clear ca cb ca3 cb3
                  skip
                  generalize (((((wt.setCell ⟨X, 0, none⟩ (.int .i64 d1.st)).setCell ⟨X, 1, none⟩ (.slice q1.a1 d1.se.length q1.c1)).setCell ⟨X, 2, none⟩ (.slice q1.a2 d1.sd.length q1.c2)).setCell ⟨X, 3, none⟩ (.slice q1.a3 d1.sx.length q1.c3)).setCell ⟨X, 4, none⟩ (.slice q1.a4 d1.rv.length q1.c4)) = wa at *
                  clear HX1 HX3 Hown Hb3 HC
                  go_upto_region 31 with fail
                  have HX1 := Lib.hid (HM1.out.below (Below.drew (Below.refl _ _)))
                  have ca : wa.drew.cell? ⟨bU, p, none⟩ = some (.int .u64 sb) := HcUb.out _ _ _ _ _ HX1.out
                  have cb : wa.drew.cell? ⟨bV, p, none⟩ = some (.int .u64 tb) := HcVb.out _ _ _ _ _ HX1.out
                  have hbk := DC.of HX1.out.bY; have p0 := hbk.c0; have p1 := hbk.c1; have p2 := hbk.c2; have p3 := hbk.c3; have p4 := hbk.c4; have pf0 := hbk.f 0; have pf1 := hbk.f 1; have pf2 := hbk.f 2; have pf3 := hbk.f 3; have pf4 := hbk.f 4; clear hbk
                  have HC : Hid (∀ W, W = wa.drew → Calls Try.prog 22 #[.agg #[.int .i64 dy.st, .slice qy.a1 dy.se.length qy.c1, .slice qy.a2 dy.sd.length qy.c2, .slice qy.a3 dy.sx.length qy.c3, .slice qy.a4 dy.rv.length qy.c4], .int .i64 (p : Int), .int .u64 sb, .int .u64 tb] W (DrEPost W (d2, 0))) := Lib.hid (fun W hW => by have := reveal_any qy dy (p : Int) sb tb W (by rw [hW]; exact HX1.out.ry.at) Hsy.out; rw [Hcy.out] at this; exact this)
                  refine wp_region_held_two (S := (fun w' : World => w'.cell? ⟨Y, 0, none⟩ = some (.int .i64 dy.st) ∧ w'.cell? ⟨Y, 1, none⟩ = some (.slice qy.a1 dy.se.length qy.c1) ∧ w'.cell? ⟨Y, 2, none⟩ = some (.slice qy.a2 dy.sd.length qy.c2) ∧ w'.cell? ⟨Y, 3, none⟩ = some (.slice qy.a3 dy.sx.length qy.c3) ∧ w'.cell? ⟨Y, 4, none⟩ = some (.slice qy.a4 dy.rv.length qy.c4) ∧ w'.cell? ⟨bU, p, none⟩ = some (.int .u64 sb) ∧ w'.cell? ⟨bV, p, none⟩ = some (.int .u64 tb))) 11 (by kernel_rfl) (by kernel_rfl) ?_
                  have hHeld : (fun w' : World => w'.cell? ⟨Y, 0, none⟩ = some (.int .i64 dy.st) ∧ w'.cell? ⟨Y, 1, none⟩ = some (.slice qy.a1 dy.se.length qy.c1) ∧ w'.cell? ⟨Y, 2, none⟩ = some (.slice qy.a2 dy.sd.length qy.c2) ∧ w'.cell? ⟨Y, 3, none⟩ = some (.slice qy.a3 dy.sx.length qy.c3) ∧ w'.cell? ⟨Y, 4, none⟩ = some (.slice qy.a4 dy.rv.length qy.c4) ∧ w'.cell? ⟨bU, p, none⟩ = some (.int .u64 sb) ∧ w'.cell? ⟨bV, p, none⟩ = some (.int .u64 tb)) wa.drew := ⟨p0, p1, p2, p3, p4, ca, cb⟩
                  simp only [List.take_succ_cons, List.take_zero, List.replicate]
                  refine wpAnyH_take (i := 0) (v := ?vvh0) rfl (by kernel_rfl) (by kernel_rfl) (by kernel_rfl) (fun _ _ _ h => h) (Or.inl ⟨by rfl, ?hyh0⟩) hHeld ?resth0; (case hyh0 => (intro w hSw; (try dsimp only at hSw); go_simp; all_goals (with_reducible rfl))); simp only [Act.put, List.setIfInBounds_toArray, List.set_cons_zero, List.set_cons_succ]
                  refine wpAnyH_take (i := 1) (v := ?vvh1) rfl (by kernel_rfl) (by kernel_rfl) (by kernel_rfl) (fun _ _ _ h => h) (Or.inl ⟨by rfl, ?hyh1⟩) hHeld ?resth1; (case hyh1 => (intro w hSw; (try dsimp only at hSw); go_simp; all_goals (with_reducible rfl))); simp only [Act.put, List.setIfInBounds_toArray, List.set_cons_zero, List.set_cons_succ]
                  refine wpAnyH_take (i := 2) (v := ?vvh2) rfl (by kernel_rfl) (by kernel_rfl) (by kernel_rfl) (fun _ _ _ h => h) (Or.inl ⟨by rfl, ?hyh2⟩) hHeld ?resth2; (case hyh2 => (intro w hSw; (try dsimp only at hSw); go_simp; all_goals (with_reducible rfl))); simp only [Act.put, List.setIfInBounds_toArray, List.set_cons_zero, List.set_cons_succ]
                  refine wpAnyH_take (i := 3) (v := ?vvh3) rfl (by kernel_rfl) (by kernel_rfl) (by kernel_rfl) (fun _ _ _ h => h) (Or.inl ⟨by rfl, ?hyh3⟩) hHeld ?resth3; (case hyh3 => (intro w hSw; (try dsimp only at hSw); go_simp; all_goals (with_reducible rfl))); simp only [Act.put, List.setIfInBounds_toArray, List.set_cons_zero, List.set_cons_succ]
                  refine wpAnyH_take (i := 4) (v := ?vvh4) rfl (by kernel_rfl) (by kernel_rfl) (by kernel_rfl) (fun _ _ _ h => h) (Or.inl ⟨by rfl, ?hyh4⟩) hHeld ?resth4; (case hyh4 => (intro w hSw; (try dsimp only at hSw); go_simp; all_goals (with_reducible rfl))); simp only [Act.put, List.setIfInBounds_toArray, List.set_cons_zero, List.set_cons_succ]
                  refine wpAnyH_take (i := 5) (v := ?vvh5) rfl (by kernel_rfl) (by kernel_rfl) (by kernel_rfl) (fun _ _ _ h => h) (Or.inl ⟨by rfl, ?hyh5⟩) hHeld ?resth5; (case hyh5 => (intro w hSw; (try dsimp only at hSw); go_simp; all_goals (with_reducible rfl))); simp only [Act.put, List.setIfInBounds_toArray, List.set_cons_zero, List.set_cons_succ]
                  refine wpAnyH_take (i := 6) (v := ?vvh6) rfl (by kernel_rfl) (by kernel_rfl) (by kernel_rfl) (fun _ _ _ h => h) (Or.inl ⟨by rfl, ?hyh6⟩) hHeld ?resth6; (case hyh6 => (intro w hSw; (try dsimp only at hSw); go_simp; all_goals (with_reducible rfl))); simp only [Act.put, List.setIfInBounds_toArray, List.set_cons_zero, List.set_cons_succ]
                  refine wpAnyH_take (i := 7) (v := ?vvh7) rfl (by kernel_rfl) (by kernel_rfl) (by kernel_rfl) (fun _ _ _ h => h) (Or.inl ⟨by rfl, ?hyh7⟩) hHeld ?resth7; (case hyh7 => (intro w hSw; (try dsimp only at hSw); go_simp; all_goals (with_reducible rfl))); simp only [Act.put, List.setIfInBounds_toArray, List.set_cons_zero, List.set_cons_succ]
                  refine wpAnyH_take (i := 8) (v := ?vvh8) rfl (by kernel_rfl) (by kernel_rfl) (by kernel_rfl) (fun _ _ _ h => h) (Or.inl ⟨by rfl, ?hyh8⟩) hHeld ?resth8; (case hyh8 => (intro w hSw; (try dsimp only at hSw); go_simp; all_goals (with_reducible rfl))); simp only [Act.put, List.setIfInBounds_toArray, List.set_cons_zero, List.set_cons_succ]
                  refine wpAnyH_take (i := 9) (v := ?vvh9) rfl (by kernel_rfl) (by kernel_rfl) (by kernel_rfl) (fun _ _ _ h => h) (Or.inl ⟨by rfl, ?hyh9⟩) hHeld ?resth9; (case hyh9 => (intro w hSw; (try dsimp only at hSw); go_simp; all_goals (with_reducible rfl))); simp only [Act.put, List.setIfInBounds_toArray, List.set_cons_zero, List.set_cons_succ]
                  refine wpAnyH_ready (rs := [10]) (by kernel_rfl) (by simp) ?_; refine AllReadyH.cons rfl (fun K hK => ?_) AllReadyH.nil
                  go_simp
                  go_at_call 22
                  refine (HC.out _ rfl).mono ?_
                  rintro e wt ⟨q2, rfl, hown, hb3⟩
                  have Hown := Lib.hid hown
                  have Hb3 := Lib.hid hb3
                  have HX3 := Lib.hid (HX1.out.below hb3)
                  have ca3 := HcUb.out _ _ _ _ _ HX3.out
                  have cb3 := HcVb.out _ _ _ _ _ HX3.out
                  clear hown hb3
                  have hbk := DC.of HX3.out.bY; have z0 := hbk.c0; have z1 := hbk.c1; have z2 := hbk.c2; have z3 := hbk.c3; have z4 := hbk.c4; have zf0 := hbk.f 0; have zf1 := hbk.f 1; have zf2 := hbk.f 2; have zf3 := hbk.f 3; have zf4 := hbk.f 4; clear hbk
                  refine hK.out _ _ ⟨z0, z1, z2, z3, z4, ca3, cb3⟩ (fun hHeld => ?_)
                  clear hK K hHeld
                  (try simp only [Act.put, List.setIfInBounds_toArray, List.set_cons_zero, List.set_cons_succ])
                  refine wpAnyH_done (by kernel_rfl) ?_ _
                  show wpAnyH _ _ _ _ _ _ _ _ _
                  have hHeld : (fun _ : World => True) wt := trivial
                  refine wpAnyH_take (i := 11) (v := ?vvh11) rfl (by kernel_rfl) (by kernel_rfl) (by kernel_rfl) (fun _ _ _ h => h) (Or.inl ⟨by rfl, ?hyh11⟩) hHeld ?resth11; (case hyh11 => (intro w hSw; (try dsimp only at hSw); go_simp; all_goals (with_reducible rfl))); simp only [Act.put, List.setIfInBounds_toArray, List.set_cons_zero, List.set_cons_succ]
                  refine wpAnyH_take (i := 12) (v := ?vvh12) rfl (by kernel_rfl) (by kernel_rfl) (by kernel_rfl) (fun _ _ _ h => h) (Or.inl ⟨by rfl, ?hyh12⟩) hHeld ?resth12; (case hyh12 => (intro w hSw; (try dsimp only at hSw); go_simp; all_goals (with_reducible rfl))); simp only [Act.put, List.setIfInBounds_toArray, List.set_cons_zero, List.set_cons_succ]
                  refine wpAnyH_take (i := 13) (v := ?vvh13) rfl (by kernel_rfl) (by kernel_rfl) (by kernel_rfl) (fun _ _ _ h => h) (Or.inl ⟨by rfl, ?hyh13⟩) hHeld ?resth13; (case hyh13 => (intro w hSw; (try dsimp only at hSw); go_simp; all_goals (with_reducible rfl))); simp only [Act.put, List.setIfInBounds_toArray, List.set_cons_zero, List.set_cons_succ]
                  refine wpAnyH_ready (rs := [14]) (by kernel_rfl) (by simp) ?_; refine AllReadyH.cons rfl (fun K hK => ?_) AllReadyH.nil
                  go_simp
                  go_wp2_with fail
                  refine hK.out _ _ trivial (fun hHeld => ?_)
                  clear hK K
                  (try simp only [Act.put, List.setIfInBounds_toArray, List.set_cons_zero, List.set_cons_succ])
                  refine wpAnyH_take (i := 15) (v := ?vvh15) rfl (by kernel_rfl) (by kernel_rfl) (by kernel_rfl) (fun _ _ _ h => h) (Or.inl ⟨by rfl, ?hyh15⟩) hHeld ?resth15; (case hyh15 => (intro w hSw; (try dsimp only at hSw); go_simp; all_goals (with_reducible rfl))); simp only [Act.put, List.setIfInBounds_toArray, List.set_cons_zero, List.set_cons_succ]
                  refine wpAnyH_done (by kernel_rfl) ?_ _
                  clear hHeld
                  have HM2 := Lib.hid (HX1.out.putY Hb3.out Hown.out)
                  clear p0 p1 p2 p3 p4 pf0 pf1 pf2 pf3 pf4
                  clear z0 z1 z2 z3 z4 zf0 zf1 zf2 zf3 zf4
                  clear ca cb ca3 cb3
                  skip
                  generalize (((((wt.setCell ⟨Y, 0, none⟩ (.int .i64 d2.st)).setCell ⟨Y, 1, none⟩ (.slice q2.a1 d2.se.length q2.c1)).setCell ⟨Y, 2, none⟩ (.slice q2.a2 d2.sd.length q2.c2)).setCell ⟨Y, 3, none⟩ (.slice q2.a3 d2.sx.length q2.c3)).setCell ⟨Y, 4, none⟩ (.slice q2.a4 d2.rv.length q2.c4)) = wb at *
                  clear HX1 HX3 Hown Hb3 HC
                  go_wp2
                  go_roundw
                  case rel => exact ⟨j + 1, q1, q2, d1, d2, by omega, by go_num, rfl, rfl, Hd1.out.symm, Hd2.out.symm, HM2.out⟩
                  case measure => simp [intOf]; omega
                · first
                    | (obtain ⟨wn, hwn⟩ : ∃ x, wt.alloc (.cells #[.int .i64 dx.st, .slice q3.a1 dx.se.length q3.c1, .slice q3.a2 dx.sd.length q3.c2, .slice q3.a3 dx.sx.length q3.c3, .slice q3.a4 dx.rv.length q3.c4] 26) = x := ⟨_, rfl⟩
                       have HMn : Hid (OS w wn G X Y qx dx qy dy (.slice (some ⟨bU, 0, none⟩) n cU) (.slice (some ⟨bV, 0, none⟩) n cV) l k) := Lib.hid (by rw [← hwn]; exact HX3c.out)
                       rw [hwn]
                       clear hwn)
                    | (obtain ⟨wn, hwn⟩ : ∃ x, (((((wt.setCell ⟨wp.heap.size, 0, none⟩ (.int .i64 dx.st)).setCell ⟨wp.heap.size, 1, none⟩ (.slice q3.a1 dx.se.length q3.c1)).setCell ⟨wp.heap.size, 2, none⟩ (.slice q3.a2 dx.sd.length q3.c2)).setCell ⟨wp.heap.size, 3, none⟩ (.slice q3.a3 dx.sx.length q3.c3)).setCell ⟨wp.heap.size, 4, none⟩ (.slice q3.a4 dx.rv.length q3.c4)) = x := ⟨_, rfl⟩
                       have HMn : Hid (OS w wn G X Y qx dx qy dy (.slice (some ⟨bU, 0, none⟩) n cU) (.slice (some ⟨bV, 0, none⟩) n cV) l k) := Lib.hid (by rw [← hwn]; exact HX1.out.below (box5_below Hbt.out (Nat.le_refl _)))
                       rw [hwn]
                       clear hwn)
                  clear p0 p1 p2 p3 p4 pf0 pf1 pf2 pf3 pf4 a0 a1 a2 a3 a4 af0 af1 af2 af3 af4 z0 z1 z2 z3 z4 zf0 zf1 zf2 zf3 zf4 b0 b1 b2 b3 b4 bf0 bf1 bf2 bf3 bf4 e0 e1 e2 e3 e4 ef0 ef1 ef2 ef3 ef4
                  (try clear y0 y1 y2 y3 y4 yf0 yf1 yf2 yf3 yf4 Hn)
                  clear hYW hXY hbU hbV ca cb caa cba cab cbb cac cbc ca3 cb3 HXa HX2 HX3 HX3b HX3c Hbt hst HC Hrv hss
                  clear HX1
                  have hwnl := HMn.out.YW
                  have HX1 := Lib.hid (HMn.out.below (Below.drew (Below.refl _ _)))
                  have ca : wn.drew.cell? ⟨bU, j, none⟩ = some (.int .u64 sa) := HcUa.out _ _ _ _ _ HX1.out
                  have cb : wn.drew.cell? ⟨bV, j, none⟩ = some (.int .u64 ta) := HcVa.out _ _ _ _ _ HX1.out
                  have hbk := DC.of HX1.out.bx; have p0 := hbk.c0; have p1 := hbk.c1; have p2 := hbk.c2; have p3 := hbk.c3; have p4 := hbk.c4; have pf0 := hbk.f 0; have pf1 := hbk.f 1; have pf2 := hbk.f 2; have pf3 := hbk.f 3; have pf4 := hbk.f 4; clear hbk
                  have HC : Hid (∀ W, W = wn.drew → Calls Try.prog 22 #[.agg #[.int .i64 dx.st, .slice qx.a1 dx.se.length qx.c1, .slice qx.a2 dx.sd.length qx.c2, .slice qx.a3 dx.sx.length qx.c3, .slice qx.a4 dx.rv.length qx.c4], .int .i64 (j : Int), .int .u64 sa, .int .u64 ta] W (DrEPost W (d1, 0))) := Lib.hid (fun W hW => by have := reveal_any qx dx (j : Int) sa ta W (by rw [hW]; exact HX1.out.rx.at) Hsx.out; rw [Hcx.out] at this; exact this)
                  refine wp_region_held_two (S := (fun w' : World => w'.cell? ⟨X, 0, none⟩ = some (.int .i64 dx.st) ∧ w'.cell? ⟨X, 1, none⟩ = some (.slice qx.a1 dx.se.length qx.c1) ∧ w'.cell? ⟨X, 2, none⟩ = some (.slice qx.a2 dx.sd.length qx.c2) ∧ w'.cell? ⟨X, 3, none⟩ = some (.slice qx.a3 dx.sx.length qx.c3) ∧ w'.cell? ⟨X, 4, none⟩ = some (.slice qx.a4 dx.rv.length qx.c4) ∧ w'.cell? ⟨bU, j, none⟩ = some (.int .u64 sa) ∧ w'.cell? ⟨bV, j, none⟩ = some (.int .u64 ta))) 11 (by kernel_rfl) (by kernel_rfl) ?_
                  have hHeld : (fun w' : World => w'.cell? ⟨X, 0, none⟩ = some (.int .i64 dx.st) ∧ w'.cell? ⟨X, 1, none⟩ = some (.slice qx.a1 dx.se.length qx.c1) ∧ w'.cell? ⟨X, 2, none⟩ = some (.slice qx.a2 dx.sd.length qx.c2) ∧ w'.cell? ⟨X, 3, none⟩ = some (.slice qx.a3 dx.sx.length qx.c3) ∧ w'.cell? ⟨X, 4, none⟩ = some (.slice qx.a4 dx.rv.length qx.c4) ∧ w'.cell? ⟨bU, j, none⟩ = some (.int .u64 sa) ∧ w'.cell? ⟨bV, j, none⟩ = some (.int .u64 ta)) wn.drew := ⟨p0, p1, p2, p3, p4, ca, cb⟩
                  simp only [List.take_succ_cons, List.take_zero, List.replicate]
                  refine wpAnyH_take (i := 0) (v := ?vvi0) rfl (by kernel_rfl) (by kernel_rfl) (by kernel_rfl) (fun _ _ _ h => h) (Or.inl ⟨by rfl, ?hyi0⟩) hHeld ?resti0; (case hyi0 => (intro w hSw; (try dsimp only at hSw); go_simp; all_goals (with_reducible rfl))); simp only [Act.put, List.setIfInBounds_toArray, List.set_cons_zero, List.set_cons_succ]
                  refine wpAnyH_take (i := 1) (v := ?vvi1) rfl (by kernel_rfl) (by kernel_rfl) (by kernel_rfl) (fun _ _ _ h => h) (Or.inl ⟨by rfl, ?hyi1⟩) hHeld ?resti1; (case hyi1 => (intro w hSw; (try dsimp only at hSw); go_simp; all_goals (with_reducible rfl))); simp only [Act.put, List.setIfInBounds_toArray, List.set_cons_zero, List.set_cons_succ]
                  refine wpAnyH_take (i := 2) (v := ?vvi2) rfl (by kernel_rfl) (by kernel_rfl) (by kernel_rfl) (fun _ _ _ h => h) (Or.inl ⟨by rfl, ?hyi2⟩) hHeld ?resti2; (case hyi2 => (intro w hSw; (try dsimp only at hSw); go_simp; all_goals (with_reducible rfl))); simp only [Act.put, List.setIfInBounds_toArray, List.set_cons_zero, List.set_cons_succ]
                  refine wpAnyH_take (i := 3) (v := ?vvi3) rfl (by kernel_rfl) (by kernel_rfl) (by kernel_rfl) (fun _ _ _ h => h) (Or.inl ⟨by rfl, ?hyi3⟩) hHeld ?resti3; (case hyi3 => (intro w hSw; (try dsimp only at hSw); go_simp; all_goals (with_reducible rfl))); simp only [Act.put, List.setIfInBounds_toArray, List.set_cons_zero, List.set_cons_succ]
                  refine wpAnyH_take (i := 4) (v := ?vvi4) rfl (by kernel_rfl) (by kernel_rfl) (by kernel_rfl) (fun _ _ _ h => h) (Or.inl ⟨by rfl, ?hyi4⟩) hHeld ?resti4; (case hyi4 => (intro w hSw; (try dsimp only at hSw); go_simp; all_goals (with_reducible rfl))); simp only [Act.put, List.setIfInBounds_toArray, List.set_cons_zero, List.set_cons_succ]
                  refine wpAnyH_take (i := 5) (v := ?vvi5) rfl (by kernel_rfl) (by kernel_rfl) (by kernel_rfl) (fun _ _ _ h => h) (Or.inl ⟨by rfl, ?hyi5⟩) hHeld ?resti5; (case hyi5 => (intro w hSw; (try dsimp only at hSw); go_simp; all_goals (with_reducible rfl))); simp only [Act.put, List.setIfInBounds_toArray, List.set_cons_zero, List.set_cons_succ]
                  refine wpAnyH_take (i := 6) (v := ?vvi6) rfl (by kernel_rfl) (by kernel_rfl) (by kernel_rfl) (fun _ _ _ h => h) (Or.inl ⟨by rfl, ?hyi6⟩) hHeld ?resti6; (case hyi6 => (intro w hSw; (try dsimp only at hSw); go_simp; all_goals (with_reducible rfl))); simp only [Act.put, List.setIfInBounds_toArray, List.set_cons_zero, List.set_cons_succ]
                  refine wpAnyH_take (i := 7) (v := ?vvi7) rfl (by kernel_rfl) (by kernel_rfl) (by kernel_rfl) (fun _ _ _ h => h) (Or.inl ⟨by rfl, ?hyi7⟩) hHeld ?resti7; (case hyi7 => (intro w hSw; (try dsimp only at hSw); go_simp; all_goals (with_reducible rfl))); simp only [Act.put, List.setIfInBounds_toArray, List.set_cons_zero, List.set_cons_succ]
                  refine wpAnyH_take (i := 8) (v := ?vvi8) rfl (by kernel_rfl) (by kernel_rfl) (by kernel_rfl) (fun _ _ _ h => h) (Or.inl ⟨by rfl, ?hyi8⟩) hHeld ?resti8; (case hyi8 => (intro w hSw; (try dsimp only at hSw); go_simp; all_goals (with_reducible rfl))); simp only [Act.put, List.setIfInBounds_toArray, List.set_cons_zero, List.set_cons_succ]
                  refine wpAnyH_take (i := 9) (v := ?vvi9) rfl (by kernel_rfl) (by kernel_rfl) (by kernel_rfl) (fun _ _ _ h => h) (Or.inl ⟨by rfl, ?hyi9⟩) hHeld ?resti9; (case hyi9 => (intro w hSw; (try dsimp only at hSw); go_simp; all_goals (with_reducible rfl))); simp only [Act.put, List.setIfInBounds_toArray, List.set_cons_zero, List.set_cons_succ]
                  refine wpAnyH_ready (rs := [10]) (by kernel_rfl) (by simp) ?_; refine AllReadyH.cons rfl (fun K hK => ?_) AllReadyH.nil
                  go_simp
                  go_at_call 22
                  refine (HC.out _ rfl).mono ?_
                  rintro e wt ⟨q1, rfl, hown, hb3⟩
                  have Hown := Lib.hid hown
                  have Hb3 := Lib.hid hb3
                  have HX3 := Lib.hid (HX1.out.below hb3)
                  have ca3 := HcUa.out _ _ _ _ _ HX3.out
                  have cb3 := HcVa.out _ _ _ _ _ HX3.out
                  clear hown hb3
                  have hbk := DC.of HX3.out.bx; have z0 := hbk.c0; have z1 := hbk.c1; have z2 := hbk.c2; have z3 := hbk.c3; have z4 := hbk.c4; have zf0 := hbk.f 0; have zf1 := hbk.f 1; have zf2 := hbk.f 2; have zf3 := hbk.f 3; have zf4 := hbk.f 4; clear hbk
                  refine hK.out _ _ ⟨z0, z1, z2, z3, z4, ca3, cb3⟩ (fun hHeld => ?_)
                  clear hK K hHeld
                  (try simp only [Act.put, List.setIfInBounds_toArray, List.set_cons_zero, List.set_cons_succ])
                  refine wpAnyH_done (by kernel_rfl) ?_ _
                  show wpAnyH _ _ _ _ _ _ _ _ _
                  have hHeld : (fun _ : World => True) wt := trivial
                  refine wpAnyH_take (i := 11) (v := ?vvi11) rfl (by kernel_rfl) (by kernel_rfl) (by kernel_rfl) (fun _ _ _ h => h) (Or.inl ⟨by rfl, ?hyi11⟩) hHeld ?resti11; (case hyi11 => (intro w hSw; (try dsimp only at hSw); go_simp; all_goals (with_reducible rfl))); simp only [Act.put, List.setIfInBounds_toArray, List.set_cons_zero, List.set_cons_succ]
                  refine wpAnyH_take (i := 12) (v := ?vvi12) rfl (by kernel_rfl) (by kernel_rfl) (by kernel_rfl) (fun _ _ _ h => h) (Or.inl ⟨by rfl, ?hyi12⟩) hHeld ?resti12; (case hyi12 => (intro w hSw; (try dsimp only at hSw); go_simp; all_goals (with_reducible rfl))); simp only [Act.put, List.setIfInBounds_toArray, List.set_cons_zero, List.set_cons_succ]
                  refine wpAnyH_take (i := 13) (v := ?vvi13) rfl (by kernel_rfl) (by kernel_rfl) (by kernel_rfl) (fun _ _ _ h => h) (Or.inl ⟨by rfl, ?hyi13⟩) hHeld ?resti13; (case hyi13 => (intro w hSw; (try dsimp only at hSw); go_simp; all_goals (with_reducible rfl))); simp only [Act.put, List.setIfInBounds_toArray, List.set_cons_zero, List.set_cons_succ]
                  refine wpAnyH_ready (rs := [14]) (by kernel_rfl) (by simp) ?_; refine AllReadyH.cons rfl (fun K hK => ?_) AllReadyH.nil
                  go_simp
                  go_wp2_with fail
                  refine hK.out _ _ trivial (fun hHeld => ?_)
                  clear hK K
                  (try simp only [Act.put, List.setIfInBounds_toArray, List.set_cons_zero, List.set_cons_succ])
                  refine wpAnyH_take (i := 15) (v := ?vvi15) rfl (by kernel_rfl) (by kernel_rfl) (by kernel_rfl) (fun _ _ _ h => h) (Or.inl ⟨by rfl, ?hyi15⟩) hHeld ?resti15; (case hyi15 => (intro w hSw; (try dsimp only at hSw); go_simp; all_goals (with_reducible rfl))); simp only [Act.put, List.setIfInBounds_toArray, List.set_cons_zero, List.set_cons_succ]
                  refine wpAnyH_done (by kernel_rfl) ?_ _
                  clear hHeld
                  have HM1 := Lib.hid (HX1.out.putX Hb3.out Hown.out)
                  clear p0 p1 p2 p3 p4 pf0 pf1 pf2 pf3 pf4
                  clear z0 z1 z2 z3 z4 zf0 zf1 zf2 zf3 zf4
                  clear ca cb ca3 cb3
                  skip
                  generalize (((((wt.setCell ⟨X, 0, none⟩ (.int .i64 d1.st)).setCell ⟨X, 1, none⟩ (.slice q1.a1 d1.se.length q1.c1)).setCell ⟨X, 2, none⟩ (.slice q1.a2 d1.sd.length q1.c2)).setCell ⟨X, 3, none⟩ (.slice q1.a3 d1.sx.length q1.c3)).setCell ⟨X, 4, none⟩ (.slice q1.a4 d1.rv.length q1.c4)) = wa at *
                  clear HX1 HX3 Hown Hb3 HC
                  go_upto_region 31 with fail
                  have HX1 := Lib.hid (HM1.out.below (Below.drew (Below.refl _ _)))
                  have ca : wa.drew.cell? ⟨bU, p, none⟩ = some (.int .u64 sb) := HcUb.out _ _ _ _ _ HX1.out
                  have cb : wa.drew.cell? ⟨bV, p, none⟩ = some (.int .u64 tb) := HcVb.out _ _ _ _ _ HX1.out
                  have hbk := DC.of HX1.out.bY; have p0 := hbk.c0; have p1 := hbk.c1; have p2 := hbk.c2; have p3 := hbk.c3; have p4 := hbk.c4; have pf0 := hbk.f 0; have pf1 := hbk.f 1; have pf2 := hbk.f 2; have pf3 := hbk.f 3; have pf4 := hbk.f 4; clear hbk
                  have HC : Hid (∀ W, W = wa.drew → Calls Try.prog 22 #[.agg #[.int .i64 dy.st, .slice qy.a1 dy.se.length qy.c1, .slice qy.a2 dy.sd.length qy.c2, .slice qy.a3 dy.sx.length qy.c3, .slice qy.a4 dy.rv.length qy.c4], .int .i64 (p : Int), .int .u64 sb, .int .u64 tb] W (DrEPost W (d2, 0))) := Lib.hid (fun W hW => by have := reveal_any qy dy (p : Int) sb tb W (by rw [hW]; exact HX1.out.ry.at) Hsy.out; rw [Hcy.out] at this; exact this)
                  refine wp_region_held_two (S := (fun w' : World => w'.cell? ⟨Y, 0, none⟩ = some (.int .i64 dy.st) ∧ w'.cell? ⟨Y, 1, none⟩ = some (.slice qy.a1 dy.se.length qy.c1) ∧ w'.cell? ⟨Y, 2, none⟩ = some (.slice qy.a2 dy.sd.length qy.c2) ∧ w'.cell? ⟨Y, 3, none⟩ = some (.slice qy.a3 dy.sx.length qy.c3) ∧ w'.cell? ⟨Y, 4, none⟩ = some (.slice qy.a4 dy.rv.length qy.c4) ∧ w'.cell? ⟨bU, p, none⟩ = some (.int .u64 sb) ∧ w'.cell? ⟨bV, p, none⟩ = some (.int .u64 tb))) 11 (by kernel_rfl) (by kernel_rfl) ?_
                  have hHeld : (fun w' : World => w'.cell? ⟨Y, 0, none⟩ = some (.int .i64 dy.st) ∧ w'.cell? ⟨Y, 1, none⟩ = some (.slice qy.a1 dy.se.length qy.c1) ∧ w'.cell? ⟨Y, 2, none⟩ = some (.slice qy.a2 dy.sd.length qy.c2) ∧ w'.cell? ⟨Y, 3, none⟩ = some (.slice qy.a3 dy.sx.length qy.c3) ∧ w'.cell? ⟨Y, 4, none⟩ = some (.slice qy.a4 dy.rv.length qy.c4) ∧ w'.cell? ⟨bU, p, none⟩ = some (.int .u64 sb) ∧ w'.cell? ⟨bV, p, none⟩ = some (.int .u64 tb)) wa.drew := ⟨p0, p1, p2, p3, p4, ca, cb⟩
                  simp only [List.take_succ_cons, List.take_zero, List.replicate]
                  refine wpAnyH_take (i := 0) (v := ?vvj0) rfl (by kernel_rfl) (by kernel_rfl) (by kernel_rfl) (fun _ _ _ h => h) (Or.inl ⟨by rfl, ?hyj0⟩) hHeld ?restj0; (case hyj0 => (intro w hSw; (try dsimp only at hSw); go_simp; all_goals (with_reducible rfl))); simp only [Act.put, List.setIfInBounds_toArray, List.set_cons_zero, List.set_cons_succ]
                  refine wpAnyH_take (i := 1) (v := ?vvj1) rfl (by kernel_rfl) (by kernel_rfl) (by kernel_rfl) (fun _ _ _ h => h) (Or.inl ⟨by rfl, ?hyj1⟩) hHeld ?restj1; (case hyj1 => (intro w hSw; (try dsimp only at hSw); go_simp; all_goals (with_reducible rfl))); simp only [Act.put, List.setIfInBounds_toArray, List.set_cons_zero, List.set_cons_succ]
                  refine wpAnyH_take (i := 2) (v := ?vvj2) rfl (by kernel_rfl) (by kernel_rfl) (by kernel_rfl) (fun _ _ _ h => h) (Or.inl ⟨by rfl, ?hyj2⟩) hHeld ?restj2; (case hyj2 => (intro w hSw; (try dsimp only at hSw); go_simp; all_goals (with_reducible rfl))); simp only [Act.put, List.setIfInBounds_toArray, List.set_cons_zero, List.set_cons_succ]
                  refine wpAnyH_take (i := 3) (v := ?vvj3) rfl (by kernel_rfl) (by kernel_rfl) (by kernel_rfl) (fun _ _ _ h => h) (Or.inl ⟨by rfl, ?hyj3⟩) hHeld ?restj3; (case hyj3 => (intro w hSw; (try dsimp only at hSw); go_simp; all_goals (with_reducible rfl))); simp only [Act.put, List.setIfInBounds_toArray, List.set_cons_zero, List.set_cons_succ]
                  refine wpAnyH_take (i := 4) (v := ?vvj4) rfl (by kernel_rfl) (by kernel_rfl) (by kernel_rfl) (fun _ _ _ h => h) (Or.inl ⟨by rfl, ?hyj4⟩) hHeld ?restj4; (case hyj4 => (intro w hSw; (try dsimp only at hSw); go_simp; all_goals (with_reducible rfl))); simp only [Act.put, List.setIfInBounds_toArray, List.set_cons_zero, List.set_cons_succ]
                  refine wpAnyH_take (i := 5) (v := ?vvj5) rfl (by kernel_rfl) (by kernel_rfl) (by kernel_rfl) (fun _ _ _ h => h) (Or.inl ⟨by rfl, ?hyj5⟩) hHeld ?restj5; (case hyj5 => (intro w hSw; (try dsimp only at hSw); go_simp; all_goals (with_reducible rfl))); simp only [Act.put, List.setIfInBounds_toArray, List.set_cons_zero, List.set_cons_succ]
                  refine wpAnyH_take (i := 6) (v := ?vvj6) rfl (by kernel_rfl) (by kernel_rfl) (by kernel_rfl) (fun _ _ _ h => h) (Or.inl ⟨by rfl, ?hyj6⟩) hHeld ?restj6; (case hyj6 => (intro w hSw; (try dsimp only at hSw); go_simp; all_goals (with_reducible rfl))); simp only [Act.put, List.setIfInBounds_toArray, List.set_cons_zero, List.set_cons_succ]
                  refine wpAnyH_take (i := 7) (v := ?vvj7) rfl (by kernel_rfl) (by kernel_rfl) (by kernel_rfl) (fun _ _ _ h => h) (Or.inl ⟨by rfl, ?hyj7⟩) hHeld ?restj7; (case hyj7 => (intro w hSw; (try dsimp only at hSw); go_simp; all_goals (with_reducible rfl))); simp only [Act.put, List.setIfInBounds_toArray, List.set_cons_zero, List.set_cons_succ]
                  refine wpAnyH_take (i := 8) (v := ?vvj8) rfl (by kernel_rfl) (by kernel_rfl) (by kernel_rfl) (fun _ _ _ h => h) (Or.inl ⟨by rfl, ?hyj8⟩) hHeld ?restj8; (case hyj8 => (intro w hSw; (try dsimp only at hSw); go_simp; all_goals (with_reducible rfl))); simp only [Act.put, List.setIfInBounds_toArray, List.set_cons_zero, List.set_cons_succ]
                  refine wpAnyH_take (i := 9) (v := ?vvj9) rfl (by kernel_rfl) (by kernel_rfl) (by kernel_rfl) (fun _ _ _ h => h) (Or.inl ⟨by rfl, ?hyj9⟩) hHeld ?restj9; (case hyj9 => (intro w hSw; (try dsimp only at hSw); go_simp; all_goals (with_reducible rfl))); simp only [Act.put, List.setIfInBounds_toArray, List.set_cons_zero, List.set_cons_succ]
                  refine wpAnyH_ready (rs := [10]) (by kernel_rfl) (by simp) ?_; refine AllReadyH.cons rfl (fun K hK => ?_) AllReadyH.nil
                  go_simp
                  go_at_call 22
                  refine (HC.out _ rfl).mono ?_
                  rintro e wt ⟨q2, rfl, hown, hb3⟩
                  have Hown := Lib.hid hown
                  have Hb3 := Lib.hid hb3
                  have HX3 := Lib.hid (HX1.out.below hb3)
                  have ca3 := HcUb.out _ _ _ _ _ HX3.out
                  have cb3 := HcVb.out _ _ _ _ _ HX3.out
                  clear hown hb3
                  have hbk := DC.of HX3.out.bY; have z0 := hbk.c0; have z1 := hbk.c1; have z2 := hbk.c2; have z3 := hbk.c3; have z4 := hbk.c4; have zf0 := hbk.f 0; have zf1 := hbk.f 1; have zf2 := hbk.f 2; have zf3 := hbk.f 3; have zf4 := hbk.f 4; clear hbk
                  refine hK.out _ _ ⟨z0, z1, z2, z3, z4, ca3, cb3⟩ (fun hHeld => ?_)
                  clear hK K hHeld
                  (try simp only [Act.put, List.setIfInBounds_toArray, List.set_cons_zero, List.set_cons_succ])
                  refine wpAnyH_done (by kernel_rfl) ?_ _
                  show wpAnyH _ _ _ _ _ _ _ _ _
                  have hHeld : (fun _ : World => True) wt := trivial
                  refine wpAnyH_take (i := 11) (v := ?vvj11) rfl (by kernel_rfl) (by kernel_rfl) (by kernel_rfl) (fun _ _ _ h => h) (Or.inl ⟨by rfl, ?hyj11⟩) hHeld ?restj11; (case hyj11 => (intro w hSw; (try dsimp only at hSw); go_simp; all_goals (with_reducible rfl))); simp only [Act.put, List.setIfInBounds_toArray, List.set_cons_zero, List.set_cons_succ]
                  refine wpAnyH_take (i := 12) (v := ?vvj12) rfl (by kernel_rfl) (by kernel_rfl) (by kernel_rfl) (fun _ _ _ h => h) (Or.inl ⟨by rfl, ?hyj12⟩) hHeld ?restj12; (case hyj12 => (intro w hSw; (try dsimp only at hSw); go_simp; all_goals (with_reducible rfl))); simp only [Act.put, List.setIfInBounds_toArray, List.set_cons_zero, List.set_cons_succ]
                  refine wpAnyH_take (i := 13) (v := ?vvj13) rfl (by kernel_rfl) (by kernel_rfl) (by kernel_rfl) (fun _ _ _ h => h) (Or.inl ⟨by rfl, ?hyj13⟩) hHeld ?restj13; (case hyj13 => (intro w hSw; (try dsimp only at hSw); go_simp; all_goals (with_reducible rfl))); simp only [Act.put, List.setIfInBounds_toArray, List.set_cons_zero, List.set_cons_succ]
                  refine wpAnyH_ready (rs := [14]) (by kernel_rfl) (by simp) ?_; refine AllReadyH.cons rfl (fun K hK => ?_) AllReadyH.nil
                  go_simp
                  go_wp2_with fail
                  refine hK.out _ _ trivial (fun hHeld => ?_)
                  clear hK K
                  (try simp only [Act.put, List.setIfInBounds_toArray, List.set_cons_zero, List.set_cons_succ])
                  refine wpAnyH_take (i := 15) (v := ?vvj15) rfl (by kernel_rfl) (by kernel_rfl) (by kernel_rfl) (fun _ _ _ h => h) (Or.inl ⟨by rfl, ?hyj15⟩) hHeld ?restj15; (case hyj15 => (intro w hSw; (try dsimp only at hSw); go_simp; all_goals (with_reducible rfl))); simp only [Act.put, List.setIfInBounds_toArray, List.set_cons_zero, List.set_cons_succ]
                  refine wpAnyH_done (by kernel_rfl) ?_ _
                  clear hHeld
                  have HM2 := Lib.hid (HX1.out.putY Hb3.out Hown.out)
                  clear p0 p1 p2 p3 p4 pf0 pf1 pf2 pf3 pf4
                  clear z0 z1 z2 z3 z4 zf0 zf1 zf2 zf3 zf4
                  clear ca cb ca3 cb3
                  skip
                  generalize (((((wt.setCell ⟨Y, 0, none⟩ (.int .i64 d2.st)).setCell ⟨Y, 1, none⟩ (.slice q2.a1 d2.se.length q2.c1)).setCell ⟨Y, 2, none⟩ (.slice q2.a2 d2.sd.length q2.c2)).setCell ⟨Y, 3, none⟩ (.slice q2.a3 d2.sx.length q2.c3)).setCell ⟨Y, 4, none⟩ (.slice q2.a4 d2.rv.length q2.c4)) = wb at *
                  clear HX1 HX3 Hown Hb3 HC
                  go_wp2
                  go_roundw
                  case rel => exact ⟨j + 1, q1, q2, d1, d2, by omega, by go_num, rfl, rfl, Hd1.out.symm, Hd2.out.symm, HM2.out⟩
                  case measure => simp [intOf]; omega
            · have hjn2 : j = n := by omega
              have hjn' : ¬ (j : Int) < (n : Int) := by omega
              have hxy : dx = dy := by rw [Hdx.out, Hdy.out, hjn2]; exact both_done n l k
              have HSm : Hid (∀ W, Below wr.heap.size wr W → Calls Try.prog 19 #[.agg #[.int .i64 dx.st, .slice qx.a1 dx.se.length qx.c1, .slice qx.a2 dx.sd.length qx.c2, .slice qx.a3 dx.sx.length qx.c3, .slice qx.a4 dx.rv.length qx.c4], .agg #[.int .i64 dy.st, .slice qy.a1 dy.se.length qy.c1, .slice qy.a2 dy.sd.length qy.c2, .slice qy.a3 dy.sx.length qy.c3, .slice qy.a4 dy.rv.length qy.c4]] W fun e w' => e = .returned (.bool true) ∧ Below W.heap.size W w') := Lib.hid (fun W hW => by have := same_any qx qy dx dy W (HM.out.rx.at.below hW) (HM.out.ry.at.below hW) Hsx.out; rw [decide_eq_true hxy] at this; exact this)
              have Hdx2 : Hid (dx = oD 2 n l k (upB n)) := Lib.hid (by rw [Hdx.out, hjn2])
              have HF : Hid (∀ W, Below wr.heap.size wr W → Calls Try.prog 24 #[.agg #[.int .i64 dx.st, .slice qx.a1 dx.se.length qx.c1, .slice qx.a2 dx.sd.length qx.c2, .slice qx.a3 dx.sx.length qx.c3, .slice qx.a4 dx.rv.length qx.c4]] W (DrEPost W (oD 3 n l k (upB n), 0))) := Lib.hid (fun W hW => by have := finish_any qx dx W (HM.out.rx.at.below hW) Hsx.out; rw [Hdx2.out, oD_finish l k _ hn1 hn4, ← Hdx2.out] at this; exact this)
              obtain ⟨d1, hd1⟩ : ∃ x, oD 3 n l k (upB n) = x := ⟨_, rfl⟩
              rw [hd1] at HF
              obtain ⟨all, hall⟩ : ∃ x, l.foldl x64 0 = x := ⟨_, rfl⟩
              obtain ⟨mx, hmx⟩ : ∃ x, mixI all = x := ⟨_, rfl⟩
              have Hsd : Hid (seedP d1 = (mx, [], 0)) := Lib.hid (by rw [← hd1, oD_seed l k _ hn1 hn4, allF_full l _ n Hle.out (fun i hi => by simp [upB, hi]), missF_full _ n (fun i hi => by simp [upB, hi]), hall, hmx])
              have HMx := Lib.hid (fun W => mix_any all W)
              rw [hmx] at HMx
              have Hall := Lib.hid hall
              clear hd1 hall hmx hxy Hdx Hdy Hdx2 hjn2
              have hbk := DC.of HM.out.bx; have p0 := hbk.c0; have p1 := hbk.c1; have p2 := hbk.c2; have p3 := hbk.c3; have p4 := hbk.c4; have pf0 := hbk.f 0; have pf1 := hbk.f 1; have pf2 := hbk.f 2; have pf3 := hbk.f 3; have pf4 := hbk.f 4; clear hbk
              have hbk := DC.of HM.out.bY; have a0 := hbk.c0; have a1 := hbk.c1; have a2 := hbk.c2; have a3 := hbk.c3; have a4 := hbk.c4; have af0 := hbk.f 0; have af1 := hbk.f 1; have af2 := hbk.f 2; have af3 := hbk.f 3; have af4 := hbk.f 4; clear hbk
              go_upto_region 35 with (first
                | (go_at_call 19
                   refine (HSm.out _ (Below.refl _ _)).mono ?_
                   rintro e wa ⟨rfl, hba⟩
                   have Hba := Lib.hid hba
                   have HMa := Lib.hid (HM.out.below hba)
                   have hbk := DC.of HMa.out.bx; have b0 := hbk.c0; have b1 := hbk.c1; have b2 := hbk.c2; have b3 := hbk.c3; have b4 := hbk.c4; have bf0 := hbk.f 0; have bf1 := hbk.f 1; have bf2 := hbk.f 2; have bf3 := hbk.f 3; have bf4 := hbk.f 4; clear hbk
                   clear hba)
                | (go_at_call 24
                   refine (HF.out _ Hba.out).mono ?_
                   rintro e wb ⟨q1, rfl, hown, hb3⟩
                   have HM1 := Lib.hid (HMa.out.putX hb3 hown)
                   have hbk := DC.of (HMa.out.below hb3).bx; have z0 := hbk.c0; have z1 := hbk.c1; have z2 := hbk.c2; have z3 := hbk.c3; have z4 := hbk.c4; have zf0 := hbk.f 0; have zf1 := hbk.f 1; have zf2 := hbk.f 2; have zf3 := hbk.f 3; have zf4 := hbk.f 4; clear hbk
                   clear hown hb3)
                | fail)
              clear p0 p1 p2 p3 p4 pf0 pf1 pf2 pf3 pf4
              clear a0 a1 a2 a3 a4 af0 af1 af2 af3 af4
              clear b0 b1 b2 b3 b4 bf0 bf1 bf2 bf3 bf4
              clear z0 z1 z2 z3 z4 zf0 zf1 zf2 zf3 zf4
              generalize (((((wb.setCell ⟨X, 0, none⟩ (.int .i64 d1.st)).setCell ⟨X, 1, none⟩ (.slice q1.a1 d1.se.length q1.c1)).setCell ⟨X, 2, none⟩ (.slice q1.a2 d1.sd.length q1.c2)).setCell ⟨X, 3, none⟩ (.slice q1.a3 d1.sx.length q1.c3)).setCell ⟨X, 4, none⟩ (.slice q1.a4 d1.rv.length q1.c4)) = wc at *
              clear HM HMa HSm HF Hba
              have HSd : Hid (Calls Try.prog 28 #[.agg #[.int .i64 d1.st, .slice q1.a1 d1.se.length q1.c1, .slice q1.a2 d1.sd.length q1.c2, .slice q1.a3 d1.sx.length q1.c3, .slice q1.a4 d1.rv.length q1.c4]] wc (SeedPost wc (mx, [], 0))) := Lib.hid (by have := seed_any q1 d1 wc HM1.out.rx.at; rw [Hsd.out] at this; exact this)
              have hbk := DC.of HM1.out.bx; have p0 := hbk.c0; have p1 := hbk.c1; have p2 := hbk.c2; have p3 := hbk.c3; have p4 := hbk.c4; have pf0 := hbk.f 0; have pf1 := hbk.f 1; have pf2 := hbk.f 2; have pf3 := hbk.f 3; have pf4 := hbk.f 4; clear hbk
              go_wp2_with (first
                | (go_at_call 28
                   refine HSd.out.mono ?_
                   rintro e wd ⟨vd, rfl, hownd, hbd⟩
                   obtain ⟨E, ec, rfl, _, _, _⟩ := own_slice hownd
                   have HM2 := Lib.hid (HM1.out.below hbd)
                   clear hownd hbd)
                | fail)
              clear p0 p1 p2 p3 p4 pf0 pf1 pf2 pf3 pf4
              clear HM1 HSd Hsd
              go_loop [23, 228] (fun a i => ∃ q : Nat, q ≤ n ∧ i = .int .i64 (q : Int) ∧ a = .int .u64 ((l.take q).foldl x64 0)) (fun _ i => (n - intOf i).toNat)
              case atStart => exact ⟨0, Nat.zero_le _, rfl, rfl⟩
              case round =>
                obtain ⟨q, hq, rfl, rfl⟩ := hrel
                by_cases hqn : q < n
                · have hqn' : (q : Int) < (n : Int) := by omega
                  have hql : q < l.length := by rw [Hle.out]; exact hqn
                  have cu := own_nth HM2.out.o1 hql
                  have Hfs := Lib.hid (fold_succ l q hql)
                  have hge : l.getD q 0 = l[q] := by simp [List.getD_eq_getElem?_getD, hql]
                  rw [hge] at cu
                  generalize l[q] = sv at *
                  obtain ⟨acc, hacc⟩ : ∃ acc, (l.take q).foldl x64 0 = acc := ⟨_, rfl⟩
                  rw [hacc] at Hfs ⊢
                  have Hx : Hid (bits BinOp.xor IntKind.u64 acc sv = x64 acc sv) := Lib.hid rfl
                  clear hacc hge hql
                  go_wp2
                  go_round
                  case rel => exact ⟨q + 1, by omega, by go_num, by rw [Hfs.out]; rfl⟩
                  case measure => simp [intOf]; omega
                · have hqn' : ¬ (q : Int) < (n : Int) := by omega
                  rw [show (l.take q).foldl x64 0 = all by rw [List.take_of_length_le (by rw [Hle.out]; omega)]; exact Hall.out]
                  have Hbel := Lib.hid HM2.out.bel
                  go_wp2_with (first
                    | (go_at_call 31; refine (HMx.out _).mono ?_; rintro e we ⟨rfl, rfl⟩)
                    | (go_at_call 9; refine (awake_any _).mono ?_; rintro e wf ⟨rfl, hbf⟩; have Hbf := Lib.hid (Hbel.out.trans (hbf.mono Hbel.out.size)); clear hbf)
                    | fail)
                  go_ret
                  exact ⟨rfl, Hbf.out⟩
end Go.Proofs.Ytbkkmgofjhaaoaa
