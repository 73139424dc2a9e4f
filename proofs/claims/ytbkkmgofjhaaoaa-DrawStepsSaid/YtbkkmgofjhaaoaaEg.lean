/- DrawGrows: its walk. -/
import Derived.Test.YtbkkmgofjhaaoaaEs
import Derived.Test.YtbkkmgofjhaaoaaEq
namespace Go.Proofs.Ytbkkmgofjhaaoaa
open Go.RowKit
set_option linter.unusedVariables false
set_option linter.unusedSimpArgs false

theorem own_apart {w w' : World} {base : Nat} {e : TypeId} {size n : Nat} {u v : Value} {xs : List Value} (h : w.ownsRow base e size v n xs) (hn : w.grownBy w' u.ownBlock) (ap : Apart u v) : w'.ownsRow base e size v n xs := by
  rcases hu : u.ownBlock with _ | y
  · rw [hu] at hn
    obtain ⟨a1, a2⟩ := h
    refine ⟨a1, ?_⟩
    rcases a2 with a2 | ⟨g', cap, cur, rfl, hb', hh, rr⟩
    · exact .inl a2
    · have hlt' : g' < w.heap.size := by
        rcases Nat.lt_or_ge g' w.heap.size with h | h
        · exact h
        · rw [Array.getElem?_eq_none h] at hh; cases hh
      exact .inr ⟨g', cap, cur, rfl, hb', (hn.block g' hlt' (by simp)).trans hh, rr⟩
  · rw [hu] at hn
    exact own_only h hn (ap y hu)
/-- The variables of the first loop. -/
structure GS (w W : World) (g H : Nat) (u v : Value) (us bs : List Int) (at_ : Int) (r : List Int) : Prop where
  o1 : W.ownsRow H 3 1 u us.length (us.map (.int .i64))
  o2 : W.ownsRow H 3 1 v bs.length (bs.map (.int .i64))
  ap : Apart u v
  rev : bs = us.reverse
  tp : TapeAt W g r
  bel : Below w.heap.size w W
  hg : w.heap.size ≤ g
  gH : g < H
  HW : H ≤ W.heap.size
  asc : Asc us
  top : ∀ x ∈ us, x ≤ at_
  a0 : 0 ≤ at_
  a1 : at_ ≤ 9 * (us.length : Int)
theorem GS.tape {w W W' : World} {g H : Nat} {u v : Value} {us bs : List Int} {at_ : Int} {r r' : List Int} (h : GS w W g H u v us bs at_ r) (hn : W.grownBy W' (some g)) (ht : TapeAt W' g r') : GS w W' g H u v us bs at_ r' :=
  ⟨ownsRow_only h.o1 hn h.gH, ownsRow_only h.o2 hn h.gH, h.ap, h.rev, ht, below_only h.bel hn h.hg h.bel.size, h.hg, h.gH, Nat.le_trans h.HW hn.size, h.asc, h.top, h.a0, h.a1⟩
theorem GS.push {w W w4 w5 : World} {g H : Nat} {u v u' v' : Value} {us bs : List Int} {at_ x : Int} {r : List Int} {o1 o2 : Obj} (h : GS w W g H u v us bs at_ r) (hx : 1 ≤ x ∧ x ≤ 9)
    (hown4 : w4.ownsRow H 3 1 u' (us.length + 1) (us.map (.int .i64) ++ [.int .i64 (at_ + x)])) (hg4 : (W.alloc o1).grownBy w4 u.ownBlock) (hat4 : u'.ownBlock = u.ownBlock ∨ u'.ownBlock = some (W.alloc o1).heap.size)
    (hown5 : w5.ownsRow H 3 1 v' (1 + bs.length) ([.int .i64 (at_ + x)] ++ bs.map (.int .i64))) (hg5 : (w4.alloc o2).grownBy w5 (some w4.heap.size)) (hat5 : v'.ownBlock = some w4.heap.size ∨ v'.ownBlock = some (w4.alloc o2).heap.size) :
    GS w w5 g H u' v' (us ++ [at_ + x]) ((at_ + x) :: bs) (at_ + x) r := by
  have hb4 := Below.grown (Below.alloc (Below.refl W.heap.size W) (Nat.le_refl _) o1) hg4 (by simp) 
  have h1 := h.o1.lt
  have hbb := own_base h.o1
  have hH := h.HW
  have hgH := h.gH
  have hwg := h.hg
  have hsW := h.bel.size
  have hs4 := hg4.size
  have hs5 := hg5.size
  rw [World.size_alloc] at hs4 hs5
  have e4 : Below H W w4 := Below.grown (Below.alloc (Below.refl H W) hH o1) hg4 (by simp; omega) (fun k hk => hbb k hk)
  have e5 : Below w4.heap.size w4 w5 := Below.grown (Below.alloc (Below.refl _ _) (Nat.le_refl _) o2) hg5 (by simp) (fun k hk => by injection hk with hk; omega)
  refine ⟨?_, ?_, ?_, by rw [h.rev, List.reverse_append]; rfl, ?_, ?_, hwg, hgH, by omega, ?_, ?_, by have := h.a0; omega, by have := h.a1; rw [List.length_append]; simp; omega⟩
  · rw [List.length_append, List.map_append]
    exact ownsRow_below hown4 e5
  · rw [List.length_cons, Nat.add_comm]; exact hown5
  · intro k hk1 hk2
    have := hown4.lt k hk1
    rcases hat5 with e | e
    · rw [e] at hk2; injection hk2 with hk2; omega
    · rw [e] at hk2; injection hk2 with hk2; rw [World.size_alloc] at hk2; omega
  · exact ((h.tp.below e4 hgH).below e5 (by omega))
  · exact (h.bel.trans (e4.mono (by omega))).trans (e5.mono (by omega))
  · exact h.asc.snoc _ (by have := h.a0; omega) (fun y hy => by have := h.top y hy; omega)
  · intro y hy
    rw [List.mem_append, List.mem_singleton] at hy
    rcases hy with hy | rfl
    · have := h.top y hy; omega
    · exact Int.le_refl _

set_option maxHeartbeats 8000000 in
set_option maxRecDepth 100000 in
theorem growsLaw (A : Option Addr) (n c : Nat) (zs : List Int) (s k : Int) (w : World) (hn : zs.length = n) (hc : n ≤ c) (hm : c ≤ maxLen) (hw : ∀ z ∈ zs, (Lit.int .i64 z).wf = true) (hA : Lies w A n (zs.map (.int .i64))) (hk : -9223372036854775808 ≤ k ∧ k ≤ 9223372036854775807) :
    Calls Try.prog 7 #[.slice A n c, .int .u64 s, .int .i64 k] w fun e w' => e = .returned (.bool true) ∧ Below w.heap.size w w' := by
  obtain ⟨i0, hi, hz0, hz1, hz2⟩ := info_parts Try.infoIn
  have HNew := Lib.hid (tape_new A n c zs w hn hc hm hw hA)
  obtain ⟨hk1, hk2⟩ := hk
  clear hw hA hn hm hc
  go_enter Try.func7, Try.ntmps7
  go_upto_region 4 with (first
    | (go_at_call 10
       refine (HNew.out _ (Below.refl _ _)).mono ?_
       rintro e1 w1 ⟨g, rfl, hg1, ht1, hb1⟩
       have Ht1 := Lib.hid ht1
       have Hb1 := Lib.hid hb1
       have hgl := ht1.lt
       clear ht1 hb1)
    | fail)
  clear HNew
  obtain ⟨r, hr⟩ : ∃ r, zs.take 400 = r := ⟨_, rfl⟩
  rw [hr] at Ht1
  have hbx := nx_bd r (15 - 1 + 1) (by omega)
  obtain ⟨x, hx⟩ : ∃ x, 1 + nx r (15 - 1 + 1) = x := ⟨_, rfl⟩
  have HN := Lib.hid (range_any g r 1 15 w1 Ht1.out (by omega) (by omega) (by omega))
  rw [hx] at HN
  have hx1 : 1 ≤ x := by omega
  have hx15 : x ≤ 15 := by omega
  clear hr hx hbx
  go_wp2_with (first
    | (go_at_call 37
       refine HN.out.mono ?_
       rintro e2 w2 ⟨rfl, ht2, hg2⟩
       have Ht2 := Lib.hid ht2
       have Hb2 : Hid (Below w.heap.size w w2) := Lib.hid (below_only Hb1.out hg2 hg1 Hb1.out.size)
       have hs2 := hg2.size
       clear ht2 hg2)
    | fail)
  have HG : Hid (GS w w2 g w2.heap.size (.slice none 0 0) (.slice none 0 0) [] [] 0 r.tail) := Lib.hid ⟨World.ownsRow_nil _ _ _ _, World.ownsRow_nil _ _ _ _, fun k hk => by simp [Value.ownBlock] at hk, rfl, Ht2.out, Hb2.out, hg1, by omega, Nat.le_refl _, Asc.nil, fun x hx => (by cases hx), by omega, by simp⟩
  clear HN Ht1 Hb1 Ht2 Hb2
  go_loopw [8, 9, 10, 11] (fun u v a i wr => ∃ (us bs : List Int) (at_ j : Int) (r' : List Int), i = .int .i64 j ∧ 0 ≤ j ∧ (us.length : Int) + j = x ∧ a = .int .i64 at_ ∧ GS w wr g w2.heap.size u v us bs at_ r') (fun _ _ _ i _ => (intOf i).toNat)
  case atStart => exact ⟨[], [], 0, x, _, rfl, by omega, by simp, rfl, HG.out⟩
  case round =>
    obtain ⟨us, bs, at_, j, r', rfl, hj0, hj1, rfl, hgs⟩ := hrel
    have HS := Lib.hid hgs
    have Hj := Lib.hid hj1
    have hul : us.length ≤ 15 := by omega
    have hjx : j ≤ 15 := by omega
    have hbl : bs.length ≤ 15 := by rw [hgs.rev, List.length_reverse]; omega
    have ha0 := hgs.a0
    have ha1 := hgs.a1
    obtain ⟨U, uc, rfl, hU⟩ := Sl.ints_own hgs.o1
    obtain ⟨V, vc, rfl, hV⟩ := Sl.ints_own hgs.o2
    have HU := Lib.hid hU
    have HV := Lib.hid hV
    clear hgs hj1 hU hV HG
    by_cases hj : 0 < j
    · have hby := nx_bd r' (9 - 1 + 1) (by omega)
      have HR := Lib.hid (range_any g r' 1 9 wr HS.out.tp (by omega) (by omega) (by omega))
      obtain ⟨y, hy⟩ : ∃ y, 1 + nx r' (9 - 1 + 1) = y := ⟨_, rfl⟩
      rw [hy] at HR
      have hy1 : 1 ≤ y := by omega
      have hy9 : y ≤ 9 := by omega
      clear hy hby
      go_wp2_with (first
        | (go_at_call 37
           refine HR.out.mono ?_
           rintro e3 w3 ⟨rfl, ht3, hg3⟩
           have HS3 := Lib.hid (HS.out.tape hg3 ht3)
           have hH3 := HS3.out.HW
           clear ht3 hg3)
        | (at_builtin
           refine wpList_append_any _ rfl (.tmp 39) (.tmp 41) _ rfl w2.heap.size 3 i0 _ 1 8 Try.underlying22 hi hz0 hz1 hz2 rfl (by omega) (.slice U us.length uc) us.length (us.map (.int .i64)) (by rfl)
             (ownsRow_below HS3.out.o1 ((Below.refl _ _).alloc (Nat.le_refl _) _)) _ _ 1 1 [.int .i64 (at_ + y)] rfl ⟨rfl, fun _ => ⟨_, rfl, Nat.lt_succ_self _, fun j u hu => World.news_of_block (heap_alloc_new w3 (.cells #[.int .i64 (at_ + y)] 3)) j u hu⟩⟩ (by simp [Value.oneCell']) (by simp only [maxLen]; omega) (by omega) (by simp; omega) ?_
           intro v4 w4 hown4 hg4 hat4
           have Hown4 := Lib.hid hown4
           have Hg4 := Lib.hid hg4
           have Hat4 := Lib.hid hat4
           have hs4 := hg4.size
           rw [World.size_alloc] at hs4
           have HV4 : Hid (Sl w4 V vc (bs.map (.int .i64))) := Lib.hid (Sl.of_own (own_apart (ownsRow_below HS3.out.o2 ((Below.refl _ _).alloc (Nat.le_refl _) _)) hg4 HS3.out.ap) (by simp))
           clear hown4 hg4 hat4)
        | (at_builtin
           refine wpList_append_any _ rfl (.tmp 44) (.tmp 45) _ rfl w2.heap.size 3 i0 _ 1 8 Try.underlying22 hi hz0 hz1 hz2 rfl (by omega) (.slice (some ⟨w4.heap.size, 0, none⟩) 1 1) 1 [.int .i64 (at_ + y)] (by rfl)
             (World.ownsRow_lit w4 #[.int .i64 (at_ + y)] 1 (by omega) (by unfold maxLen; omega) (by simp)) _ _ bs.length vc (bs.map (.int .i64)) rfl (Lies.reads (by have := HV4.out.lies; rw [List.length_map] at this; exact this.alloc _) (by simp)) (ints_oneCell .i64 _) (by simp only [maxLen]; omega) (by omega) (by simp; omega) ?_
           intro v5 w5 hown5 hg5 hat5)
        | fail)
      go_roundw
      case rel => exact ⟨us ++ [at_ + y], (at_ + y) :: bs, at_ + y, j - 1, _, by go_num, by omega, by have := Hj.out; rw [List.length_append]; simp; omega, rfl, HS3.out.push ⟨hy1, hy9⟩ Hown4.out Hg4.out Hat4.out hown5 hg5 hat5⟩
      case measure => simp [intOf]; omega
    · obtain ⟨M, hM⟩ : ∃ M, us.length = M := ⟨_, rfl⟩
      have HM := Lib.hid hM
      have hM1 : 1 ≤ M := by have := Hj.out; omega
      have hM15 : M ≤ 15 := by omega
      have hmb := modV_bd k (M : Int) (by omega)
      obtain ⟨N, hN⟩ : ∃ N : Nat, modV k (M : Int) = (N : Int) := Int.eq_ofNat_of_zero_le hmb.1
      have HMod : Hid (∀ W, Calls Try.prog 12 #[.int .i64 k, .int .i64 (M : Int)] W fun e w' => e = .returned (.int .i64 (N : Int)) ∧ W = w') := Lib.hid (fun W => by have := mod_any k (M : Int) W ⟨hk1, hk2⟩ (by omega); rw [hN] at this; exact this)
      have hNM : N < M := by omega
      have hasc := HS.out.asc
      have Hasc := Lib.hid hasc
      have hb1 : sampleP s us (N : Int) = (srt ((tickS s us).take N), 0) := grow_a hasc (by omega) (by omega)
      have hb2 : sampleP s bs (N : Int) = (srt ((tickS s us).take N), 0) := by rw [HS.out.rev]; exact grow_b hasc (by omega) (by omega)
      have hb3 : sampleP s us ((N : Int) + 1) = (srt ((tickS s us).take (N + 1)), 0) := grow_d hasc (by omega) (by omega)
      have Hrest : Hid (∀ p : Int → Bool, (∀ u ∈ srt ((tickS s us).take N), p u = true) → sampleP s (us.filter p) (N : Int) = (srt ((tickS s us).take N), 0)) := Lib.hid (fun p hp => grow_rest hasc (by omega) (by omega) p hp)
      have Hmem : Hid (∀ u ∈ srt ((tickS s us).take N), u ∈ srt ((tickS s us).take (N + 1)) ∧ u ∈ us) := Lib.hid (fun u hu => grow_mem (by omega) hu)
      have hlen := grow_len (s := s) (l := us) (n := N) (by omega)
      generalize srt ((tickS s us).take N) = a at *
      generalize srt ((tickS s us).take (N + 1)) = d at *
      obtain ⟨hal, hdl⟩ := hlen
      have Hal := Lib.hid hal
      have Hdl := Lib.hid hdl
      have HSa : Hid (∀ W, Below wr.heap.size wr W → Calls Try.prog 38 #[.int .u64 s, .slice U M uc, .int .i64 (N : Int)] W (SamplePost W (a, 0))) := Lib.hid (fun W hW => by have := sample_any s U uc us (N : Int) W (HU.out.below hW); rw [hb1, hM] at this; exact this)
      have HSb : Hid (∀ W, Below wr.heap.size wr W → Calls Try.prog 38 #[.int .u64 s, .slice V bs.length vc, .int .i64 (N : Int)] W (SamplePost W (a, 0))) := Lib.hid (fun W hW => by have := sample_any s V vc bs (N : Int) W (HV.out.below hW); rw [hb2] at this; exact this)
      have HSd : Hid (∀ W, Below wr.heap.size wr W → Calls Try.prog 38 #[.int .u64 s, .slice U M uc, .int .i64 ((N : Int) + 1)] W (SamplePost W (d, 0))) := Lib.hid (fun W hW => by have := sample_any s U uc us ((N : Int) + 1) W (HU.out.below hW); rw [hb3, hM] at this; exact this)
      have hnb : (N : Int) < (M : Int) := by omega
      have Hbel := Lib.hid HS.out.bel
      have hsw := Hbel.out.size
      have Htp := Lib.hid HS.out.tp
      have hgw : g < wr.heap.size := by have := HS.out.gH; have := HS.out.HW; omega
      rw [hM]
      clear hb1 hb2 hb3 hal hdl hasc hN hmb hM hul ha1
      go_upto_region 10 with (first | (go_at_call 12; refine (HMod.out _).mono ?_; rintro e w' ⟨rfl, rfl⟩) | fail)
      go_upto_region 11 with (first
        | (go_at_call 38
           refine (HSa.out _ (Below.refl _ _)).mono ?_
           rintro e w3 ⟨v3, rfl, hown3, hb3⟩
           simp only [Hal.out] at hown3
           obtain ⟨E, ec, rfl, _, _, _⟩ := own_slice hown3
           have HE3 := Lib.hid (Sl.of_own hown3 (by simp [Hal.out]))
           have HO3 := Lib.hid hown3
           have Hb3 := Lib.hid hb3
           have hs3 := hb3.size
           clear hown3 hb3)
        | fail)
      go_upto_region 12 with (first
        | (go_at_call 38
           refine (HSb.out _ Hb3.out).mono ?_
           rintro e w4 ⟨v4, rfl, hown4, hb4⟩
           simp only [Hal.out] at hown4
           obtain ⟨F, fc, rfl, _, _, _⟩ := own_slice hown4
           have HF4 := Lib.hid (Sl.of_own hown4 (by simp [Hal.out]))
           have HE4 := Lib.hid (HE3.out.below hb4)
           have HO4 := Lib.hid (ownsRow_below HO3.out hb4)
           have Hb4 := Lib.hid (Hb3.out.trans (hb4.mono hs3))
           have hs4 := Hb4.out.size
           clear hown4 hb4)
        | fail)
      go_wp2_with (first
        | (go_at_call 38
           refine (HSd.out _ Hb4.out).mono ?_
           rintro e w5 ⟨v5, rfl, hown5, hb5⟩
           simp only [Hdl.out] at hown5
           obtain ⟨D, dc, rfl, _, _, _⟩ := own_slice hown5
           have HD5 := Lib.hid (Sl.of_own hown5 (by simp [Hdl.out]))
           have HE5 := Lib.hid (HE4.out.below hb5)
           have HO5 := Lib.hid (ownsRow_below HO4.out hb5)
           have HF5 := Lib.hid (HF4.out.below hb5)
           have Hb5 := Lib.hid (Hb4.out.trans (hb5.mono hs4))
           have hs5 := Hb5.out.size
           clear hown5 hb5)
        | (go_at_call 30
           refine (ints_any E F N N ec fc a a _ HE5.out HF5.out Hal.out Hal.out).mono ?_
           rintro e w6 ⟨rfl, hb6⟩
           rw [decide_eq_true rfl]
           have HE6 := Lib.hid (HE5.out.below hb6)
           have HO6 := Lib.hid (ownsRow_below HO5.out hb6)
           have HD6 := Lib.hid (HD5.out.below hb6)
           have Hb6 := Lib.hid (Hb5.out.trans (hb6.mono hs5))
           have hs6 := Hb6.out.size
           clear hb6)
        | fail)
      clear HSa HSb HSd HE3 HE4 HE5 HF4 HF5 HD5 Hb3 Hb4 Hb5 hs3 hs4 hs5
      go_loop [104] (fun i => ∃ q : Nat, q ≤ N ∧ i = .int .i64 (q : Int)) (fun i => (N - intOf i).toNat)
      case atStart => exact ⟨0, Nat.zero_le _, rfl⟩
      case round =>
        obtain ⟨q, hq, rfl⟩ := hrel
        by_cases hqN : q < N
        · have hq' : (q : Int) < (N : Int) := by omega
          obtain ⟨b, off, hAe, _, c0⟩ := HE6.out.at q (by rw [Hal.out]; exact hqN)
          have hmm := Hmem.out (a[q]'(by rw [Hal.out]; exact hqN)) (List.getElem_mem _)
          generalize a[q]'(by rw [Hal.out]; exact hqN) = y at *
          have HH1 : Hid (Calls Try.prog 41 #[.slice D (N + 1) dc, .int .i64 y] w6 fun e w' => e = .returned (.bool true) ∧ w' = w6) := Lib.hid (by have := has_any D (N + 1) dc d y w6 HD6.out Hdl.out; rw [decide_eq_true hmm.1] at this; exact this)
          have HH2 : Hid (Calls Try.prog 41 #[.slice U M uc, .int .i64 y] w6 fun e w' => e = .returned (.bool true) ∧ w' = w6) := Lib.hid (by have := has_any U M uc us y w6 (HU.out.below Hb6.out) HM.out; rw [decide_eq_true hmm.2] at this; exact this)
          clear hmm
          subst hAe
          go_wp2_with (first
            | (go_at_call 41; (with_reducible refine HH1.out.mono ?_); rintro e wz ⟨rfl, rfl⟩)
            | (go_at_call 41; (with_reducible refine HH2.out.mono ?_); rintro e wz ⟨rfl, rfl⟩)
            | fail)
          go_round
          case rel => exact ⟨q + 1, by omega, by go_num⟩
          case measure => simp [intOf]; omega
        · have hq' : ¬ (q : Int) < (N : Int) := by omega
          have hbz := nx_bd r' (M : Int) (by omega)
          obtain ⟨Z, hZ⟩ : ∃ Z : Nat, nx r' (M : Int) = (Z : Int) := Int.eq_ofNat_of_zero_le hbz.1
          have HNx : Hid (Calls Try.prog 13 #[.pointer (some ⟨g, 0, none⟩), .int .i64 (M : Int)] w6 (NextPost w6 g r' (Z : Int))) := Lib.hid (by have := next_any g r' (M : Int) w6 (Htp.out.below Hb6.out hgw) (by omega); rw [hZ] at this; exact this)
          have hZM : Z < M := by omega
          clear hZ hbz
          go_wp2_with (first
            | (go_at_call 13
               refine HNx.out.mono ?_
               rintro e w7 ⟨rfl, ht7, hg7⟩
               have hgw' := hg1
               have hb7 : Below w.heap.size w w7 := below_only (Hbel.out.trans (Hb6.out.mono hsw)) hg7 hg1 (by omega)
               have Hb7 := Lib.hid hb7
               have HU7 : Hid (Sl w7 U uc (us.map (.int .i64))) := Lib.hid (Sl.of_own (ownsRow_only (ownsRow_below (by have := HS.out.o1; rw [HM.out] at this; exact this) Hb6.out) hg7 HS.out.gH) (by simp [HM.out]))
               have HE7 : Hid (Sl w7 E ec (a.map (.int .i64))) := Lib.hid (Sl.of_own (ownsRow_only HO6.out hg7 hgw) (by simp [Hal.out]))
               have hs7 := hg7.size
               clear ht7 hg7 hb7)
            | fail)
          clear HNx HE6 HD6 HO3 HO4 HO5 HO6 Hmem
          have hZl : Z < us.length := by rw [HM.out]; exact hZM
          obtain ⟨G, hG⟩ : ∃ G, us[Z] = G := ⟨_, rfl⟩
          have HG := Lib.hid hG
          have Hfin : Hid (sampleP s (us.filter (stays G a)) (N : Int) = (a, 0)) := Lib.hid (Hrest.out (stays G a) (fun u hu => by simp [stays, hu]))
          clear hG Hrest
          go_loopw [21, 125] (fun v i wy => ∃ q : Nat, q ≤ M ∧ i = .int .i64 (q : Int) ∧ wy.ownsRow w7.heap.size 3 1 v ((us.take q).filter (stays G a)).length (((us.take q).filter (stays G a)).map (.int .i64)) ∧ Below w7.heap.size w7 wy) (fun _ i _ => (M - intOf i).toNat)
          case atStart => exact ⟨0, Nat.zero_le _, rfl, World.ownsRow_nil _ _ _ _, Below.refl _ _⟩
          case round =>
            obtain ⟨p, hp, rfl, hown, hby⟩ := hrel
            have Hown := Lib.hid hown
            have Hby := Lib.hid hby
            have hsy := hby.size
            have hrl : ((us.take p).filter (stays G a)).length ≤ 15 := Nat.le_trans (List.length_filter_le _ _) (by rw [List.length_take]; omega)
            clear hown hby
            by_cases hpM : p < M
            · have hp' : (p : Int) < (M : Int) := by omega
              have hpl : p < us.length := by rw [HM.out]; exact hpM
              obtain ⟨b, off, hAe, _, c0⟩ := (HU7.out.below Hby.out).at p hpl
              have Hrs := Lib.hid (rest_succ (stays G a) us p hpl)
              have Hin : Hid (us[p] = G ↔ p = Z) := Lib.hid (by rw [← HG.out]; exact asc_inj Hasc.out hpl hZl)
              have Hst : Hid (stays G a us[p] = (decide (us[p] ≠ G) || decide (us[p] ∈ a))) := Lib.hid rfl
              have HHa := Lib.hid (fun W (hW : Below w7.heap.size w7 W) => has_any E N ec a us[p] W (HE7.out.below hW) Hal.out)
              generalize us[p] = y at *
              generalize (us.take p).filter (stays G a) = R at *
              subst hAe
              have one : Hid (∀ (v : Value) (W : World), W.ownsRow w7.heap.size 3 1 v (R.length + 1) (R.map (Value.int .i64) ++ [.int .i64 y]) → W.ownsRow w7.heap.size 3 1 v (R ++ [y]).length ((R ++ [y]).map (Value.int .i64))) := Lib.hid (fun v W h => by rw [List.length_append, List.map_append]; exact h)
              by_cases hpZ : p = Z
              · subst hpZ
                have hyG : y = G := Hin.out.2 rfl
                by_cases hya : y ∈ a
                · have Hd : Hid ((us.take (p + 1)).filter (stays G a) = R ++ [y]) := Lib.hid (by rw [Hrs.out, if_pos (by rw [Hst.out]; simp [hya])])
                  have HH : Hid (∀ W, Below w7.heap.size w7 W → Calls Try.prog 41 #[.slice E N ec, .int .i64 y] W fun e w' => e = .returned (.bool true) ∧ w' = W) := Lib.hid (fun W hW => by have := HHa.out W hW; rw [decide_eq_true hya] at this; exact this)
                  clear Hrs Hin Hst HHa hyG hya
                  go_wp2_with (first
                    | (go_at_call 41; (with_reducible refine (HH.out _ Hby.out).mono ?_); rintro e wz ⟨rfl, rfl⟩)
                    | (at_builtin
                       refine wpList_append_any _ rfl (.tmp 138) (.tmp 140) _ rfl w7.heap.size 3 i0 _ 1 8 Try.underlying22 hi hz0 hz1 hz2 rfl (by omega) _ R.length (R.map (.int .i64)) rfl
                         (ownsRow_below Hown.out ((Below.refl _ _).alloc (Nat.le_refl _) _)) _ _ 1 1 [.int .i64 y] rfl ⟨rfl, fun _ => ⟨_, rfl, Nat.lt_succ_self _, fun j u hu => World.news_of_block (heap_alloc_new _ (.cells #[.int .i64 y] 3)) j u hu⟩⟩ (by simp [Value.oneCell']) (by simp only [maxLen]; omega) (by omega) (by simp; omega) ?_
                       intro v8 w8 hown8 hg8 hat8)
                    | fail)
                  go_roundw
                  case rel => exact ⟨p + 1, by omega, by go_num, by rw [Hd.out]; exact one.out _ _ hown8, Below.grown (Hby.out.alloc hsy _) hg8 (by simp; omega) (own_base Hown.out)⟩
                  case measure => simp [intOf]; omega
                · have Hd : Hid ((us.take (p + 1)).filter (stays G a) = R) := Lib.hid (by rw [Hrs.out, if_neg (by rw [Hst.out, decide_eq_false hya, decide_eq_false (fun h => h hyG)]; simp)])
                  have HH : Hid (∀ W, Below w7.heap.size w7 W → Calls Try.prog 41 #[.slice E N ec, .int .i64 y] W fun e w' => e = .returned (.bool false) ∧ w' = W) := Lib.hid (fun W hW => by have := HHa.out W hW; rw [decide_eq_false hya] at this; exact this)
                  clear Hrs Hin Hst HHa hyG hya
                  go_wp2_with (first
                    | (go_at_call 41; (with_reducible refine (HH.out _ Hby.out).mono ?_); rintro e wz ⟨rfl, rfl⟩)
                    | fail)
                  go_roundw
                  case rel => exact ⟨p + 1, by omega, by go_num, by rw [Hd.out]; exact Hown.out, Hby.out⟩
                  case measure => simp [intOf]; omega
              · have hyG : y ≠ G := fun e => hpZ (Hin.out.1 e)
                have Hd : Hid ((us.take (p + 1)).filter (stays G a) = R ++ [y]) := Lib.hid (by rw [Hrs.out, if_pos (by rw [Hst.out]; simp [hyG])])
                have hpZ' : ¬ (p : Int) = (Z : Int) := by omega
                clear Hrs Hin Hst HHa hyG
                go_wp2_with (first
                  | (at_builtin
                     refine wpList_append_any _ rfl (.tmp 138) (.tmp 140) _ rfl w7.heap.size 3 i0 _ 1 8 Try.underlying22 hi hz0 hz1 hz2 rfl (by omega) _ R.length (R.map (.int .i64)) rfl
                       (ownsRow_below Hown.out ((Below.refl _ _).alloc (Nat.le_refl _) _)) _ _ 1 1 [.int .i64 y] rfl ⟨rfl, fun _ => ⟨_, rfl, Nat.lt_succ_self _, fun j u hu => World.news_of_block (heap_alloc_new _ (.cells #[.int .i64 y] 3)) j u hu⟩⟩ (by simp [Value.oneCell']) (by simp only [maxLen]; omega) (by omega) (by simp; omega) ?_
                     intro v8 w8 hown8 hg8 hat8)
                  | fail)
                go_roundw
                case rel => exact ⟨p + 1, by omega, by go_num, by rw [Hd.out]; exact one.out _ _ hown8, Below.grown (Hby.out.alloc hsy _) hg8 (by simp; omega) (own_base Hown.out)⟩
                case measure => simp [intOf]; omega
            · have hp' : ¬ (p : Int) < (M : Int) := by omega
              rw [show us.take p = us from List.take_of_length_le (by rw [HM.out]; omega)] at Hown hrl
              generalize us.filter (stays G a) = R at *
              obtain ⟨Y, yc, rfl, hY⟩ := Sl.ints_own Hown.out
              have HY := Lib.hid hY
              have HSx : Hid (Calls Try.prog 38 #[.int .u64 s, .slice Y R.length yc, .int .i64 (N : Int)] wr (SamplePost wr (a, 0))) := Lib.hid (by have := sample_any s Y yc R (N : Int) wr HY.out; rw [Hfin.out] at this; exact this)
              clear hY
              go_wp2_with (first
                | (go_at_call 38
                   refine HSx.out.mono ?_
                   rintro e wa ⟨va, rfl, howna, hba⟩
                   simp only [Hal.out] at howna
                   obtain ⟨J, jc, rfl, _, _, _⟩ := own_slice howna
                   have HJ := Lib.hid (Sl.of_own howna (by simp [Hal.out]))
                   have HEa := Lib.hid ((HE7.out.below Hby.out).below hba)
                   have Hba : Hid (Below w.heap.size w wa) := Lib.hid (Hb7.out.trans ((Hby.out.mono (Hb7.out.size)).trans (hba.mono (Nat.le_trans Hb7.out.size hsy))))
                   have hsa := hba.size
                   clear howna hba)
                | (go_at_call 30
                   refine (ints_any J E N N jc ec a a _ HJ.out HEa.out Hal.out Hal.out).mono ?_
                   rintro e wb ⟨rfl, hbb⟩
                   rw [decide_eq_true rfl]
                   have Hbb : Hid (Below w.heap.size w wb) := Lib.hid (Hba.out.trans (hbb.mono Hba.out.size))
                   clear hbb)
                | (go_at_call 9; refine (awake_any _).mono ?_; rintro e wz ⟨rfl, hbz⟩; have Hbz : Hid (Below w.heap.size w wz) := Lib.hid (Hbb.out.trans (hbz.mono Hbb.out.size)); clear hbz)
                | fail)
              go_ret
              exact ⟨rfl, Hbz.out⟩
end Go.Proofs.Ytbkkmgofjhaaoaa
