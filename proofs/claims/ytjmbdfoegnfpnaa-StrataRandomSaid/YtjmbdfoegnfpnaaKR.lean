/- The walk of StrataRandom. -/
import Derived.Test.YtjmbdfoegnfpnaaKQ
namespace Go.Proofs.Ytjmbdfoegnfpnaa
open Go.RowKit
set_option linter.unusedVariables false
set_option linter.unusedSimpArgs false

theorem unitsP_same {q : Pl} {l l' : List Un} {m : Nat} (h : unitsP q l = 0) (hm : q.ws.length = m) (he : farms l' = farms l) (hf : ∀ u ∈ l', u.fs.length = m ∧ ∀ x ∈ u.fs, 0 ≤ x ∧ x ≤ 100) : unitsP q l' = 0 := by
  obtain ⟨hc, hl, hu, hp⟩ := units_ok h
  refine unitsP_of hc (by rw [← farms_len, he, farms_len]; exact hl) (fun u hu' => ?_) (by rw [he]; exact hp)
  have h1 := farms_pos h u.fm (by rw [← he]; exact List.mem_map_of_mem hu')
  obtain ⟨h2, h3⟩ := hf u hu'
  refine ⟨h1, ?_⟩
  unfold factB
  rw [decide_eq_true (by rw [h2, hm])]
  have : u.fs.any (outP 0 100) = false := by
    rw [List.any_eq_false]
    intro x hx
    have := h3 x hx
    simp [outP]
    omega
  rw [this]
  rfl

set_option maxHeartbeats 8000000 in
set_option maxRecDepth 100000 in
theorem randomLaw (A : Option Addr) (n c : Nat) (zs : List Int) (seed : Int) (w : World) (hn : zs.length = n) (hc : n ≤ c) (hm : c ≤ maxLen) (hw : ∀ z ∈ zs, (Lit.int .i64 z).wf = true) (hA : Lies w A n (zs.map (.int .i64))) :
    Calls Try.prog 8 #[.slice A n c, .int .u64 seed] w fun e w' => e = .returned (.bool true) ∧ Below w.heap.size w w' := by
  obtain ⟨i0, hi, hz0, hz1, hz2⟩ := info_parts Try.infoIn
  obtain ⟨i1, hj, hj0, hj1, hj2⟩ := info_parts Try.infoUnit
  have HN := Lib.hid (new_any A n c zs w hn hc hm hw hA)
  clear hn hc hm hw hA
  go_enter Try.func8, Try.ntmps8
  go_wp2_with fail
  refine HN.out.mono ?_
  rintro e w1 ⟨g, rfl, hwg, ht1, hb1⟩
  have Ht1 := Lib.hid ht1
  have Hb1 := Lib.hid hb1
  have hg1 := ht1.lt
  have hs1 := hb1.size
  clear ht1 hb1 HN
  go_wp2_with fail
  refine (plan_any g _ w1 Ht1.out).mono ?_
  rintro e w2 ⟨p, q, r2, rfl, ho2, ht2, hg2, hck, hle⟩
  have Ho2 := Lib.hid ho2
  have Ht2 := Lib.hid ht2
  have Hg2 := Lib.hid hg2
  have Hck := Lib.hid hck
  have Hle2 := Lib.hid hle
  have hs2 := hg2.size
  clear ho2 ht2 hg2 hck hle Ht1
  go_upto_region 3 with fail
  obtain ⟨w3, hw3⟩ : ∃ w3 : World, w3 = w2.alloc (.cells #[.slice p.a1 q.ws.length p.c1, .slice p.a2 q.ls.length p.c2, .slice p.a3 q.ss.length p.c3, .int .i64 q.le, .int .i64 q.ra] 24) := ⟨_, rfl⟩
  rw [← hw3]
  have Hb23 : Hid (Below w2.heap.size w2 w3) := Lib.hid (by rw [hw3]; exact (by repeat' (first | with_reducible exact Below.refl _ _ | with_reducible refine below_drewN ?_ _ | with_reducible refine Below.drew ?_ | with_reducible refine Below.alloc ?_ ?_ _ | with_reducible refine Below.setCell ?_ ?_ _ | with_reducible refine Below.trans ?_ (Below.mono (by with_reducible assumption) ?_) | (simp; done) | (simp; omega) | omega)))
  have HP3 : Hid (w3.heap[w2.heap.size]? = some (.cells #[.slice p.a1 q.ws.length p.c1, .slice p.a2 q.ls.length p.c2, .slice p.a3 q.ss.length p.c3, .int .i64 q.le, .int .i64 q.ra] 24 (0, 0))) := Lib.hid (by rw [hw3]; exact heap_alloc_new w2 _)
  have hlt3 : w2.heap.size < w3.heap.size := by rw [hw3]; simp
  have Hg3 : Hid (w1.grownBy w3 (some g)) := Lib.hid (only_below Hg2.out Hb23.out hs2)
  have Ht3 := Lib.hid (Ht2.out.below Hb23.out (by omega))
  have Ho3 := Lib.hid (Ho2.out.below Hb23.out)
  clear hw3 Hg2 Ht2 Ho2
  have hwl : q.ws.length ≤ 1000 := by have := ((planB_iff q).1 (checkP_zero Hck.out)).1; omega
  have p0 := rowCell HP3.out (i := 0) rfl
  have p1 := rowCell HP3.out (i := 1) rfl
  have p2 := rowCell HP3.out (i := 2) rfl
  have p3 := rowCell HP3.out (i := 3) rfl
  have p4 := rowCell HP3.out (i := 4) rfl
  go_wp2_with fail
  refine (units_any g r2 p q 10 w3 Ht3.out (by omega) hwl).mono ?_
  rintro e w5 ⟨l, UA, uc, r5, rfl, hU, ht5, hg5, hok, hlen⟩
  clear p0 p1 p2 p3 p4
  have HU := Lib.hid hU
  have Ht5 := Lib.hid ht5
  have Hg35 := Lib.hid hg5
  have Hg5 := Lib.hid (only_trans Hg3.out hg5)
  have Hok := Lib.hid (hok Hck.out)
  have hs5 := hg5.size
  have Ho5 := Lib.hid (Ho3.out.only hg5 (by omega))
  have HP5 : Hid (w5.heap[w2.heap.size]? = some (.cells #[.slice p.a1 q.ws.length p.c1, .slice p.a2 q.ls.length p.c2, .slice p.a3 q.ss.length p.c3, .int .i64 q.le, .int .i64 q.ra] 24 (0, 0))) := Lib.hid ((hg5.block _ hlt3 (fun e => by injection e; omega)).trans HP3.out)
  clear hU ht5 hg5 hok Ht3 Ho3 HP3 Hg3

  obtain ⟨m, hm⟩ : ∃ m, q.ws.length = m := ⟨_, rfl⟩
  have Hm := Lib.hid hm
  rw [hm] at hwl
  clear hm
  obtain ⟨N, hN⟩ : ∃ N, l.length = N := ⟨_, rfl⟩
  have HN := Lib.hid hN
  rw [hN] at hlen HU ⊢
  clear hN
  have HSu : Hid (SlU w5 UA N uc l) := Lib.hid (by have := HU.out; rw [← HN.out] at this; have h2 := this.slu; rwa [HN.out] at h2)
  go_upto_region 5 with fail
  go_wp2_with fail
  go_loopw [8, 10, 11, 25, 35] (fun v _ _ i _ wr => ∃ (t : Nat) (l' : List (Un × UV)) (r' : List Int), t ≤ N ∧ i = .int .i64 (t : Int) ∧ l'.length = t ∧ farms (uns l') = farms (uns (l.take t)) ∧ (∀ u ∈ uns l', u.fs.length = m ∧ ∀ x ∈ u.fs, 0 ≤ x ∧ x ≤ 100) ∧ UsOwn wr w5.heap.size v l' ∧ TapeAt wr g r' ∧ w5.grownBy wr (some g)) (fun _ _ _ i _ _ => N - (intOf i).toNat)
  case atStart => exact ⟨0, [], _, Nat.zero_le _, rfl, rfl, rfl, by simp [uns], UsOwn.nil _ _, Ht5.out, World.grownBy.refl _ _⟩
  case round =>
    obtain ⟨t, l', r', ht, rfl, hlt', hfa, hgd, hU', htr, hgr⟩ := hrel
    have HU2 := Lib.hid hU'
    have Htr := Lib.hid htr
    have Hgr := Lib.hid hgr
    have Hgd := Lib.hid hgd
    have Hfa := Lib.hid hfa
    have Hlt := Lib.hid hlt'
    have hsr := hgr.size
    clear hU' htr hgr hgd hfa hlt'
    by_cases htN : t < N
    · have htN' : (t : Int) < (N : Int) := by omega
      have htl : t < l.length := by have := HN.out; omega
      have HUr := Lib.hid (HU.out.only Hgr.out (by omega))
      obtain ⟨b, off, rfl, hb, g0, g1, hfit⟩ := (show SlU wr UA N uc l by have := HUr.out; rw [← HN.out] at this; have h2 := this.slu; rwa [HN.out] at h2).at t htl
      have Hft := Lib.hid (farms_take htl)
      have Hfb : Hid (l[t].1.fs.length = m) := Lib.hid (by
        have := ((units_ok Hok.out).2.2.1 l[t].1 (by unfold uns; exact List.mem_map_of_mem (List.getElem_mem _))).2
        have h2 : l[t].1.fs.length = q.ws.length ∧ l[t].1.fs.any (outP 0 100) = false := by simpa [factB] using this
        rw [h2.1, Hm.out])
      obtain ⟨xx, hxx⟩ : ∃ xx, l[t] = xx := ⟨_, rfl⟩
      rw [hxx] at g0 g1 Hft Hfb
      clear hxx hfit htl
      obtain ⟨u, uv⟩ := xx
      dsimp only at g0 g1 Hft Hfb
      rw [Hfb.out] at g1
      obtain ⟨fm, hfm⟩ : ∃ fm, u.fm = fm := ⟨_, rfl⟩
      rw [hfm] at g0 Hft
      clear hfm
      go_upto_region 9 with fail
      obtain ⟨w6, hw6⟩ : ∃ w6 : World, w6 = (wr.alloc (.cells #[.int .i64 fm, .slice uv.a m uv.c] 27)).alloc (.cells #[.int .i64 fm, .slice none 0 0] 27) := ⟨_, rfl⟩
      rw [← hw6]
      have hX6 : w6.heap[wr.heap.size + 1]? = some (.cells #[.int .i64 fm, .slice none 0 0] 27 (0, 0)) := by
        rw [hw6]
        have := heap_alloc_new (wr.alloc (.cells #[.int .i64 fm, .slice uv.a m uv.c] 27)) (.cells #[.int .i64 fm, .slice none 0 0] 27)
        simpa using this
      have hY6 : w6.heap[wr.heap.size]? = some (.cells #[.int .i64 fm, .slice uv.a m uv.c] 27 (0, 0)) := by rw [hw6]; exact (Below.heap_alloc _ _ _ (by simp)).trans (heap_alloc_new wr _)
      have Hb6 : Hid (Below wr.heap.size wr w6) := Lib.hid (by rw [hw6]; exact (by repeat' (first | with_reducible exact Below.refl _ _ | with_reducible refine below_drewN ?_ _ | with_reducible refine Below.drew ?_ | with_reducible refine Below.alloc ?_ ?_ _ | with_reducible refine Below.setCell ?_ ?_ _ | with_reducible refine Below.trans ?_ (Below.mono (by with_reducible assumption) ?_) | (simp; done) | (simp; omega) | omega)))
      have hs6 : wr.heap.size + 2 ≤ w6.heap.size := by rw [hw6]; simp
      have HG6 : Hid (Gro w5 w6 w6 g (wr.heap.size + 1) (.cells #[.int .i64 fm, .slice none 0 0] 27 (0, 0)) (.slice none 0 0) [] r') := Lib.hid (Gro.start (Htr.out.below Hb6.out (by omega)) (only_below Hgr.out Hb6.out hsr) hX6 (by omega) (by omega))
      have y1 := rowCell hY6 (i := 1) rfl
      have Hub : Hid (∀ y, (y = u8 ∨ ∃ x ∈ l', y = Value.slice x.2.a x.1.fs.length x.2.c) → ∀ b, y.ownBlock = some b → w5.heap.size ≤ b ∧ b < wr.heap.size) := Lib.hid (by
        rintro y (rfl | ⟨x, hx, rfl⟩) b hb
        · exact ⟨own_base HU2.out.o b hb, own_lt HU2.out.o b hb⟩
        · exact ⟨own_base (HU2.out.fs x hx) b hb, own_lt (HU2.out.fs x hx) b hb⟩)
      clear hw6 hX6 hY6
      obtain ⟨wo, rfl⟩ : ∃ wo : World, wo = wr := ⟨_, rfl⟩
      go_wp2_with fail
      go_loopw [35] (fun i wq => ∃ (t2 : Nat) (fs : List Int) (v : Value) (r2 : List Int), i = .int .i64 (t2 : Int) ∧ fs.length = t2 ∧ t2 ≤ m ∧ Gro w5 w6 wq g (wo.heap.size + 1) (.cells #[.int .i64 fm, v] 27 (0, 0)) v fs r2 ∧ ∀ x ∈ fs, 0 ≤ x ∧ x ≤ 100) (fun i _ => m - (intOf i).toNat)
      case atStart => exact ⟨0, [], _, _, rfl, rfl, Nat.zero_le _, HG6.out, by simp⟩
      case round =>
        obtain ⟨t2, fs, v, r2, rfl, hft, htm, hG, hfs⟩ := hrel
        have HG := Lib.hid hG
        have Hfs := Lib.hid hfs
        have hfl : fs.length ≤ 1000000 := by omega
        have Hfl := Lib.hid hft
        clear hG hfs hft
        by_cases htt : t2 < m
        · have htt' : (t2 : Int) < (m : Int) := by omega
          have HGd := Lib.hid HG.out.drew
          have c0 : wr.drew.cell? ⟨wo.heap.size + 1, 1, none⟩ = some v := rowCell HGd.out.blk rfl
          go_wp2_with fail
          refine wp_region_held_tail (S := fun w' => w'.cell? ⟨wo.heap.size + 1, 1, none⟩ = some v) 6 (by kernel_rfl) (by kernel_rfl) (by kernel_rfl) ?_
          have hHeld : (fun w' : World => w'.cell? ⟨wo.heap.size + 1, 1, none⟩ = some v) wr.drew := c0
          simp only [List.take_succ_cons, List.take_zero, List.replicate]
          refine wpAnyH_take (i := 0) (v := ?vva0) rfl (by kernel_rfl) (by kernel_rfl) (by kernel_rfl) (fun _ _ _ h => h) (Or.inl ⟨by rfl, ?hya0⟩) hHeld ?resta0; (case hya0 => (intro w hSw; (try dsimp only at hSw); go_simp; all_goals (with_reducible rfl))); simp only [Act.put, List.setIfInBounds_toArray, List.set_cons_zero, List.set_cons_succ]
          refine wpAnyH_take (i := 1) (v := ?vva1) rfl (by kernel_rfl) (by kernel_rfl) (by kernel_rfl) (fun _ _ _ h => h) (Or.inl ⟨by rfl, ?hya1⟩) hHeld ?resta1; (case hya1 => (intro w hSw; (try dsimp only at hSw); go_simp; all_goals (with_reducible rfl))); simp only [Act.put, List.setIfInBounds_toArray, List.set_cons_zero, List.set_cons_succ]
          refine wpAnyH_take (i := 2) (v := ?vva2) rfl (by kernel_rfl) (by kernel_rfl) (by kernel_rfl) (fun _ _ _ h => h) (Or.inl ⟨by rfl, ?hya2⟩) hHeld ?resta2; (case hya2 => (intro w hSw; (try dsimp only at hSw); go_simp; all_goals (with_reducible rfl))); simp only [Act.put, List.setIfInBounds_toArray, List.set_cons_zero, List.set_cons_succ]
          refine wpAnyH_ready (rs := [3]) (by kernel_rfl) (by simp) ?_; refine AllReadyH.cons rfl (fun K hK => ?_) AllReadyH.nil
          go_simp
          go_at_call 14
          refine (next_any g r2 101 _ HGd.out.tp (by omega)).mono ?_
          rintro e w9 ⟨rfl, ht9, hg9⟩
          have hx := nx_bd r2 101 (by omega)
          have HG5 := Lib.hid (HGd.out.tape hg9 ht9)
          generalize nx r2 101 = x at *
          clear ht9 hg9
          refine hK.out _ _ (rowCell HG5.out.blk rfl) (fun hHeld => ?_)
          clear hK K
          (try simp only [Act.put, List.setIfInBounds_toArray, List.set_cons_zero, List.set_cons_succ])
          refine wpAnyH_ready (rs := [4]) (by kernel_rfl) (by simp) ?_; refine AllReadyH.cons rfl (fun K hK => ?_) AllReadyH.nil
          go_simp
          refine hK.out _ _ (rowCell (HG5.out.alloc _).blk rfl) (fun hHeld => ?_)
          clear hK K
          (try simp only [Act.put, List.setIfInBounds_toArray, List.set_cons_zero, List.set_cons_succ])
          refine wpAnyH_ready (rs := [5]) (by kernel_rfl) (by simp) ?_; refine AllReadyH.cons rfl (fun K hK => ?_) AllReadyH.nil
          refine step_append_any _ rfl (.tmp 38) (.tmp 41) 22 rfl w6.heap.size 3 i0 (.int .i64 0) 1 8 Try.underlying22 hi hz0 hz1 hz2 rfl (by omega) v fs.length (fs.map (Value.int .i64)) rfl (HG5.out.alloc _).o _ _ 1 1 [.int .i64 x] rfl ⟨rfl, fun _ => ⟨_, rfl, Nat.lt_succ_self _, fun j u hu => (by exact news_any _ _ _ j u hu)⟩⟩ (by simp [Value.oneCell']) (by simp only [maxLen]; omega) (by omega) (HG5.out.alloc _).sz ?_
          intro v6 w10 hown6 hg6 hat6
          obtain ⟨A6, e6, rfl, _, _, _⟩ := own_slice hown6
          have HG7 := Lib.hid ((HG5.out.alloc _).app hown6 hg6)
          clear hown6 hg6 hat6
          refine hK.out _ _ (rowCell HG7.out.blk rfl) (fun hHeld => ?_)
          clear hK K
          (try simp only [Act.put, List.setIfInBounds_toArray, List.set_cons_zero, List.set_cons_succ])
          refine wpAnyH_done (by kernel_rfl) ?_ _
          clear hHeld c0
          show wpList _ _ _ _ _ _
          simp only [List.drop_succ_cons, List.drop_zero]
          have c1 : w10.cell? ⟨wo.heap.size + 1, 1, none⟩ = some v := rowCell HG7.out.blk rfl
          have f1 := frozen_of_row w10 (wo.heap.size + 1) 1 _ _ HG7.out.blk
          go_wp2
          go_roundw
          case rel => exact ⟨t2 + 1, fs ++ [x], _, _, by go_num, by rw [List.length_append, Hfl.out]; rfl, by omega, HG7.out.put (setRow _ HG7.out.blk rfl), fun y hy => by
            rcases List.mem_append.1 hy with h | h
            · exact Hfs.out y h
            · rw [List.mem_singleton] at h; omega⟩
          case measure => simp [intOf]; omega
        · have htt' : ¬ (t2 : Int) < (m : Int) := by omega
          obtain ⟨A6, e6, rfl, _, _, _⟩ := own_slice HG.out.o
          have b0 : wr.cell? ⟨wo.heap.size + 1, 0, none⟩ = some (.int .i64 fm) := rowCell HG.out.blk rfl
          have b1 : wr.cell? ⟨wo.heap.size + 1, 1, none⟩ = some (.slice A6 fs.length e6) := rowCell HG.out.blk rfl
          have HU7 : Hid (UsOwn wr w5.heap.size u8 l') := Lib.hid (by
            refine ⟨own_keep HU2.out.o (fun b hb hB => ?_), fun x hx => own_keep (HU2.out.fs x hx) (fun b hb hB => ?_), HU2.out.ap⟩
            · exact (HG.out.kp b (by omega) (by omega) (by omega)).trans (Hb6.out.block b hb)
            · exact (HG.out.kp b (by omega) (by omega) (by omega)).trans (Hb6.out.block b hb))
          have hs7 := HG.out.sz
          have hll : l'.length ≤ 20 := by have := Hlt.out; omega
          have Hpush := Lib.hid (fun (W : World) (v5 : Value) => HU7.out.push (w5 := W) (v5 := v5) (⟨fm, fs⟩, ⟨A6, e6⟩) (own_rebase HG.out.o (by omega)) (fun b hb e => by
            have h1 := (Hub.out u8 (.inl rfl) b hb).2
            have h2 := own_base HG.out.o b e
            omega) ((Below.refl _ _).alloc (Nat.le_refl _) (.cells #[.int .i64 fm, .slice A6 fs.length e6] 27)))
          dsimp only at Hpush
          go_upto_region 13 with fail
          go_wp2_with (first
            | (at_builtin
               refine wpList_append_any _ rfl (.tmp 45) (.tmp 47) _ rfl w5.heap.size 27 i1 _ 2 32 Try.underlying25 hj hj0 hj1 hj2 rfl (by omega) u8 l'.length (uCells l') rfl
                 (ownsRow_below HU7.out.o ((Below.refl _ _).alloc (Nat.le_refl _) _)) _ _ 1 1 [.int .i64 fm, .slice A6 fs.length e6] rfl ⟨rfl, fun _ => ⟨_, rfl, Nat.lt_succ_self _, fun j u hu => (by exact news_any _ _ _ j u hu)⟩⟩ (by simp [Value.oneCell']) (by simp only [maxLen]; omega) (by omega) (by simp; omega) ?_
               intro v8 w8 hown8 hg8 hat8)
            | fail)
          go_roundw
          case rel =>
            have hU8 := Hpush.out w8 v8 hg8 hown8 hat8
            refine ⟨t + 1, _, r2, by omega, by go_num, by rw [List.length_append, Hlt.out]; rfl, ?_, ?_, hU8, ?_, ?_⟩
            · have e : farms (uns (l' ++ [(⟨fm, fs⟩, ⟨A6, e6⟩)])) = farms (uns l') ++ [fm] := by simp [farms, uns]
              rw [e, Hfa.out, Hft.out]
            · intro z hz
              simp only [uns, List.map_append, List.map_cons, List.map_nil, List.mem_append, List.mem_singleton] at hz
              rcases hz with hz | rfl
              · exact Hgd.out z hz
              · exact ⟨by show fs.length = m; have := Hfl.out; omega, Hfs.out⟩
            · exact (HG.out.tp.alloc _).grown hg8 (fun b hb => by have := (Hub.out u8 (.inl rfl) b hb).1; omega)
            · exact only_grown (only_alloc HG.out.gr _) hg8 (fun b hb => (Hub.out u8 (.inl rfl) b hb).1)
          case measure => simp [intOf]; omega
    · have htN' : ¬ (t : Int) < (N : Int) := by omega
      obtain ⟨w8, hw8⟩ : ∃ w8 : World, w8 = wr := ⟨_, rfl⟩
      subst hw8
      have Hfall : Hid (farms (uns l') = farms (uns l)) := Lib.hid (by rw [Hfa.out, List.take_of_length_le (by have := HN.out; omega)])
      have Hok' : Hid (unitsP q (uns l') = 0) := Lib.hid (unitsP_same Hok.out Hm.out Hfall.out Hgd.out)
      obtain ⟨OA, oc, rfl, _, _, _⟩ := own_slice HU2.out.o
      have HSo : Hid (SlU w8 OA l'.length oc l') := Lib.hid HU2.out.slu
      have HUr := Lib.hid (HU.out.only Hgr.out (by omega))
      have HSr : Hid (SlU w8 UA l.length uc l) := Lib.hid (by have := HUr.out; rw [← HN.out] at this; exact this.slu)
      have Ho8 := Lib.hid (Ho5.out.only Hgr.out (by omega))
      have HP8 : Hid (w8.heap[w2.heap.size]? = some (.cells #[.slice p.a1 q.ws.length p.c1, .slice p.a2 q.ls.length p.c2, .slice p.a3 q.ss.length p.c3, .int .i64 q.le, .int .i64 q.ra] 24 (0, 0))) := Lib.hid ((Hgr.out.block _ (by omega) (fun e => by injection e; omega)).trans HP5.out)
      have HC1 := Lib.hid (chooseS_any p q UA uc l seed w8 Ho8.out.at HSr.out)
      rw [HN.out] at HC1
      have HC2 := Lib.hid (fun W (hW : Below w8.heap.size w8 W) => chooseS_any p q OA oc l' seed W (Ho8.out.at.below hW) (HSo.out.below hW))
      have Hsame := Lib.hid (random_same Hok.out Hok'.out seed Hfall.out.symm)
      have He1 := Lib.hid (choose_err Hok.out seed)
      have He2 := Lib.hid (choose_err Hok'.out seed)
      have Hl1 : Hid ((chooseP q (uns l) seed).1.length ≤ 1000) := Lib.hid (by have := choose_len Hok.out seed; rw [uns_len, HN.out] at this; omega)
      have Hl2 : Hid ((chooseP q (uns l') seed).1.length ≤ 1000) := Lib.hid (by have := choose_len Hok'.out seed; rw [uns_len, Hlt.out] at this; omega)
      obtain ⟨c1, hc1⟩ : ∃ c1, chooseP q (uns l) seed = c1 := ⟨_, rfl⟩
      obtain ⟨c2, hc2⟩ : ∃ c2, chooseP q (uns l') seed = c2 := ⟨_, rfl⟩
      rw [hc1] at HC1 Hsame He1 Hl1
      simp only [hc2] at HC2 Hsame He2 Hl2
      clear hc1 hc2
      obtain ⟨k1, e1⟩ := c1
      obtain ⟨k2, e2⟩ := c2
      have he1 := He1.out
      have he2 := He2.out
      dsimp only at he1 he2
      subst he1 he2
      have p0 := rowCell HP8.out (i := 0) rfl
      have p1 := rowCell HP8.out (i := 1) rfl
      have p2 := rowCell HP8.out (i := 2) rfl
      have p3 := rowCell HP8.out (i := 3) rfl
      have p4 := rowCell HP8.out (i := 4) rfl
      go_upto_region 15 with fail
      go_wp2_with fail
      refine HC1.out.mono ?_
      rintro e w9 ⟨v1, rfl, hown1, hb9⟩
      dsimp only at hown1
      obtain ⟨KA, kc, rfl, hSk⟩ := SlK.of_own hown1
      have HSk := Lib.hid hSk
      have Hb9 := Lib.hid hb9
      have hs9 := hb9.size
      have HP9 := Lib.hid ((hb9.block w2.heap.size (by omega)).trans HP8.out)
      clear hown1 hSk hb9 p0 p1 p2 p3 p4 HC1
      have p0 := rowCell HP9.out (i := 0) rfl
      have p1 := rowCell HP9.out (i := 1) rfl
      have p2 := rowCell HP9.out (i := 2) rfl
      have p3 := rowCell HP9.out (i := 3) rfl
      have p4 := rowCell HP9.out (i := 4) rfl
      go_wp2_with fail
      refine (HC2.out _ Hb9.out).mono ?_
      rintro e w10 ⟨v2, rfl, hown2, hb10⟩
      dsimp only at hown2
      obtain ⟨LA, lc, rfl, hSl⟩ := SlK.of_own hown2
      have HSl := Lib.hid hSl
      have Hb10 := Lib.hid hb10
      have Hb810 := Lib.hid (Hb9.out.trans (hb10.mono hs9))
      clear hown2 hSl p0 p1 p2 p3 p4 HC2 hb10
      go_upto_region 19 with fail
      go_wp2_with fail
      refine (random_any KA k1.length kc k1 _ (HSk.out.below Hb10.out) Hl1.out).mono ?_
      rintro e w11 ⟨x1, rfl, hox1, hb11⟩
      have Hb11 := Lib.hid hb11
      obtain ⟨RA, rc, rfl, _, _, _⟩ := own_slice hox1
      have HX1 : Hid (Sl w11 RA rc ((randomP k1).map (.int .i64))) := Lib.hid (Sl.of_own hox1 (by simp))
      clear hox1 hb11
      go_wp2_with fail
      refine (random_any LA k2.length lc k2 _ (HSl.out.below Hb11.out) Hl2.out).mono ?_
      rintro e w12 ⟨x2, rfl, hox2, hb12⟩
      have Hb12 := Lib.hid hb12
      obtain ⟨SA, sc, rfl, _, _, _⟩ := own_slice hox2
      have HX2 : Hid (Sl w12 SA sc ((randomP k2).map (.int .i64))) := Lib.hid (Sl.of_own hox2 (by simp))
      have HX1b := Lib.hid (HX1.out.below hb12)
      clear hox2 hb12
      go_wp2_with fail
      refine (ints_any RA SA _ _ rc sc (randomP k1) (randomP k2) _ HX1b.out HX2.out rfl rfl).mono ?_
      rintro e w13 ⟨rfl, hb13⟩
      rw [decide_eq_true (show randomP k1 = randomP k2 from Hsame.out)]
      have Hb13 := Lib.hid hb13
      clear hb13
      go_wp2_with fail
      refine (awake25_any _).mono ?_
      rintro e w14 ⟨rfl, hb14⟩
      have Hb14 := Lib.hid hb14
      clear hb14
      go_wp2
      go_ret
      refine ⟨rfl, ?_⟩
      have s10 := Hb10.out.size
      have s11 := Hb11.out.size
      have s12 := Hb12.out.size
      have s13 := Hb13.out.size
      have h1 : Below w8.heap.size w8 w14 := (((Hb810.out.trans (Hb11.out.mono (by omega))).trans (Hb12.out.mono (by omega))).trans (Hb13.out.mono (by omega))).trans (Hb14.out.mono (by omega))
      exact (below_only (below_only Hb1.out Hg5.out hwg hs1) Hgr.out hwg (by omega)).trans (h1.mono (by omega))
end Go.Proofs.Ytjmbdfoegnfpnaa
