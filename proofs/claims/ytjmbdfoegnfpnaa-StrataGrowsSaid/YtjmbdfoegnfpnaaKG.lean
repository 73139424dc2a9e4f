/- The walk of StrataGrows. -/
import Derived.Test.YtjmbdfoegnfpnaaKH
import Derived.Test.YtjmbdfoegnfpnaaKS
namespace Go.Proofs.Ytjmbdfoegnfpnaa
open Go.RowKit
set_option linter.unusedVariables false
set_option linter.unusedSimpArgs false

/-- The parts drawn so far. -/
def grGood (q : Pl) (ss : List Int) : Prop := (∀ x ∈ ss, 0 ≤ x ∧ x ≤ 1000) ∧ ∀ s, s < ss.length → q.ss.getD s 0 ≤ ss.getD s 0
theorem grGood.push {q : Pl} {ss : List Int} (h : grGood q ss) {x : Int} (hx : 0 ≤ x ∧ x ≤ 1000) (hk : q.ss.getD ss.length 0 ≤ x) : grGood q (ss ++ [x]) := by
  refine ⟨fun y hy => ?_, fun s hs => ?_⟩
  · rcases List.mem_append.1 hy with h1 | h1
    · exact h.1 y h1
    · rw [List.mem_singleton] at h1; omega
  · rw [List.length_append] at hs
    rcases Nat.lt_or_ge s ss.length with h1 | h1
    · have := h.2 s h1
      rw [show (ss ++ [x]).getD s 0 = ss.getD s 0 by simp [List.getD_eq_getElem?_getD, List.getElem?_append_left h1]]
      exact this
    · have h2 : s = ss.length := by simp at hs; omega
      subst h2
      rw [show (ss ++ [x]).getD ss.length 0 = x by simp [List.getD_eq_getElem?_getD]]
      exact hk

theorem UsOwn.gro {w w2 K W : World} {g X base : Nat} {c : Obj} {v u : Value} {l r : List Int} {k : List (Un × UV)} (ho : UsOwn w2 base u k) (hK : Below w2.heap.size w2 K) (hX : w2.heap.size ≤ X) (h : Gro w K W g X c v l r) (hg : g < base) : UsOwn W base u k := by
  have hs := hK.size
  exact ho.keep (fun b hb hB => (h.kp b (by omega) (by omega) (by omega)).trans (hK.block b hb))

set_option maxHeartbeats 8000000 in
set_option maxRecDepth 100000 in
theorem growsLaw25 (A : Option Addr) (n c : Nat) (zs : List Int) (seed : Int) (w : World) (hn : zs.length = n) (hc : n ≤ c) (hm : c ≤ maxLen) (hw : ∀ z ∈ zs, (Lit.int .i64 z).wf = true) (hA : Lies w A n (zs.map (.int .i64))) :
    Calls Try.prog 6 #[.slice A n c, .int .u64 seed] w fun e w' => e = .returned (.bool true) ∧ Below w.heap.size w w' := by
  obtain ⟨i0, hi, hz0, hz1, hz2⟩ := info_parts Try.infoIn
  have HN := Lib.hid (new_any A n c zs w hn hc hm hw hA)
  clear hn hc hm hw hA
  go_enter Try.func6, Try.ntmps6
  go_wp2_with fail
  refine HN.out.mono ?_
  rintro e w1 ⟨g, rfl, hwg, ht1, hb1⟩
  have Ht1 := Lib.hid ht1
  have Hb1 := Lib.hid hb1
  have hg1 := ht1.lt
  have hs1 := hb1.size
  clear ht1 hb1 HN
  go_wp2_with fail
  refine (plan_any g _ w1 Ht1.out).mono ?_
  rintro e w2 ⟨p, q, r2, rfl, ho2, ht2, hg2, hck, hle⟩
  have Ho2 := Lib.hid ho2
  have Ht2 := Lib.hid ht2
  have Hg2 := Lib.hid hg2
  have Hck := Lib.hid hck
  have Hle2 := Lib.hid hle
  have hs2 := hg2.size
  clear ho2 ht2 hg2 hck hle Ht1
  go_upto_region 3 with fail
  obtain ⟨w3, hw3⟩ : ∃ w3 : World, w3 = w2.alloc (.cells #[.slice p.a1 q.ws.length p.c1, .slice p.a2 q.ls.length p.c2, .slice p.a3 q.ss.length p.c3, .int .i64 q.le, .int .i64 q.ra] 24) := ⟨_, rfl⟩
  rw [← hw3]
  have Hb23 : Hid (Below w2.heap.size w2 w3) := Lib.hid (by rw [hw3]; exact (by repeat' (first | with_reducible exact Below.refl _ _ | with_reducible refine below_drewN ?_ _ | with_reducible refine Below.drew ?_ | with_reducible refine Below.alloc ?_ ?_ _ | with_reducible refine Below.setCell ?_ ?_ _ | with_reducible refine Below.trans ?_ (Below.mono (by with_reducible assumption) ?_) | (simp; done) | (simp; omega) | omega)))
  have HP3 : Hid (w3.heap[w2.heap.size]? = some (.cells #[.slice p.a1 q.ws.length p.c1, .slice p.a2 q.ls.length p.c2, .slice p.a3 q.ss.length p.c3, .int .i64 q.le, .int .i64 q.ra] 24 (0, 0))) := Lib.hid (by rw [hw3]; exact heap_alloc_new w2 _)
  have hlt3 : w2.heap.size < w3.heap.size := by rw [hw3]; simp
  have Hg3 : Hid (w1.grownBy w3 (some g)) := Lib.hid (only_below Hg2.out Hb23.out hs2)
  have Ht3 := Lib.hid (Ht2.out.below Hb23.out (by omega))
  have Ho3 := Lib.hid (Ho2.out.below Hb23.out)
  clear hw3 Hg2 Ht2 Ho2
  have hwl : q.ws.length ≤ 1000 := by have := ((planB_iff q).1 (checkP_zero Hck.out)).1; omega
  have p0 := rowCell HP3.out (i := 0) rfl
  have p1 := rowCell HP3.out (i := 1) rfl
  have p2 := rowCell HP3.out (i := 2) rfl
  have p3 := rowCell HP3.out (i := 3) rfl
  have p4 := rowCell HP3.out (i := 4) rfl
  go_wp2_with fail
  refine (units_any g r2 p q 12 w3 Ht3.out (by omega) hwl).mono ?_
  rintro e w5 ⟨l, UA, uc, r5, rfl, hU, ht5, hg5, hok, hlen⟩
  clear p0 p1 p2 p3 p4
  have HU := Lib.hid hU
  have Ht5 := Lib.hid ht5
  have Hg35 := Lib.hid hg5
  have Hg5 := Lib.hid (only_trans Hg3.out hg5)
  have Hok := Lib.hid (hok Hck.out)
  have hs5 := hg5.size
  have Ho5 := Lib.hid (Ho3.out.only hg5 (by omega))
  have HP5 : Hid (w5.heap[w2.heap.size]? = some (.cells #[.slice p.a1 q.ws.length p.c1, .slice p.a2 q.ls.length p.c2, .slice p.a3 q.ss.length p.c3, .int .i64 q.le, .int .i64 q.ra] 24 (0, 0))) := Lib.hid ((hg5.block _ hlt3 (fun e => by injection e; omega)).trans HP3.out)
  clear hU ht5 hg5 hok Ht3 Ho3 HP3 Hg3

  have hN12 := hlen
  obtain ⟨N, hN⟩ : ∃ N, l.length = N := ⟨_, rfl⟩
  have HN := Lib.hid hN
  rw [hN] at hN12 HU ⊢
  clear hN hlen
  have HSu : Hid (SlU w5 UA N uc l) := Lib.hid (by have := HU.out; rw [← HN.out] at this; have h2 := this.slu; rwa [HN.out] at h2)
  obtain ⟨m, hm⟩ : ∃ m, q.ss.length = m := ⟨_, rfl⟩
  have Hm := Lib.hid hm
  have hm6 : 1 ≤ m ∧ m ≤ 6 := by
    obtain ⟨-, -, h1, -, h2, -⟩ := (planB_iff q).1 (checkP_zero Hck.out)
    omega
  have Hssb := Lib.hid (fun k (hk : k < q.ss.length) => ss_bd Hck.out hk)
  have hleb := le_bd Hck.out
  have hle2 := Hle2.out
  have p0 := rowCell HP5.out (i := 0) rfl
  have p1 := rowCell HP5.out (i := 1) rfl
  have p2 := rowCell HP5.out (i := 2) rfl
  have p3 := rowCell HP5.out (i := 3) rfl
  have p4 := rowCell HP5.out (i := 4) rfl
  rw [hm] at p2
  rw [hm]
  clear hm
  go_upto_region 6 with fail
  obtain ⟨w6, hw6⟩ : ∃ w6 : World, w6 = w5.alloc (.cells #[.slice p.a1 q.ws.length p.c1, .slice p.a2 q.ls.length p.c2, .slice none 0 0, .int .i64 q.le, .int .i64 q.ra] 24) := ⟨_, rfl⟩
  rw [← hw6]
  clear p0 p1 p2 p3 p4
  have Hb56 : Hid (Below w5.heap.size w5 w6) := Lib.hid (by rw [hw6]; exact (by repeat' (first | with_reducible exact Below.refl _ _ | with_reducible refine below_drewN ?_ _ | with_reducible refine Below.drew ?_ | with_reducible refine Below.alloc ?_ ?_ _ | with_reducible refine Below.setCell ?_ ?_ _ | with_reducible refine Below.trans ?_ (Below.mono (by with_reducible assumption) ?_) | (simp; done) | (simp; omega) | omega)))
  have HG6 : Hid (Gro w5 w6 w6 g w5.heap.size (.cells #[.slice p.a1 q.ws.length p.c1, .slice p.a2 q.ls.length p.c2, .slice none 0 0, .int .i64 q.le, .int .i64 q.ra] 24 (0, 0)) (.slice none 0 0) [] r5) := Lib.hid (by
    rw [hw6]
    exact Gro.start (Ht5.out.alloc _) (only_alloc (World.grownBy.refl _ _) _) (heap_alloc_new w5 _) (by omega) (Nat.le_refl _))
  clear hw6
  have HP6 := Lib.hid ((Hb56.out.block w2.heap.size (by omega)).trans HP5.out)
  obtain ⟨b3, off3, hA3, -, -⟩ := Ho5.out.at.s3.at 0 (by have := Hm.out; omega)
  have HA3 := Lib.hid hA3
  have HW : Hid (∀ W base, PlOwn W base p q → ∀ t, (h : t < q.ss.length) → W.cell? ⟨b3, off3 + t, none⟩ = some (.int .i64 q.ss[t])) := Lib.hid (fun W base hW t ht => by
    obtain ⟨b', off', hA', _, hc'⟩ := hW.at.s3.at t ht
    have := HA3.out.symm.trans hA'
    injection this with h
    injection h with e1 e2
    subst e1 e2
    exact hc')
  have P2 : w6.cell? ⟨w2.heap.size, 2, none⟩ = some (.slice (some ⟨b3, off3, none⟩) m p.c3) := by
    have := rowCell HP6.out (i := 2) rfl
    rw [Hm.out, hA3] at this
    exact this
  clear hA3
  go_wp2_with fail
  go_loopw [10, 32] (fun _ i wr => ∃ (t : Nat) (sn : List Int) (v : Value) (r' : List Int), i = .int .i64 (t : Int) ∧ sn.length = t ∧ t ≤ m ∧ Gro w5 w6 wr g w5.heap.size (.cells #[.slice p.a1 q.ws.length p.c1, .slice p.a2 q.ls.length p.c2, v, .int .i64 q.le, .int .i64 q.ra] 24 (0, 0)) v sn r' ∧ grGood q sn) (fun _ i _ => m - (intOf i).toNat)
  case atStart => exact ⟨0, [], _, _, rfl, rfl, Nat.zero_le _, HG6.out, by simp, by simp⟩
  case round =>
    obtain ⟨t, sn, v, r', rfl, hst, htm, hG, hgd⟩ := hrel
    have HG := Lib.hid hG
    have Hgd := Lib.hid hgd
    have Hst := Lib.hid hst
    have hsl : sn.length ≤ 6 := by omega
    clear hG hgd hst
    by_cases htt : t < m
    · have htt' : (t : Int) < (m : Int) := by omega
      have htl : t < q.ss.length := by have := Hm.out; omega
      have cw := HW.out wr _ (Ho5.out.gro Hb56.out (Nat.le_refl _) HG.out hg1) t htl
      have hsb := Hssb.out t htl
      have Hgt : Hid (q.ss.getD sn.length 0 = q.ss[t]) := Lib.hid (by rw [Hst.out]; simp [List.getD_eq_getElem?_getD, htl])
      generalize q.ss[t] = s at *
      clear htl
      go_upto_region 9 with fail
      have HGd := Lib.hid HG.out.drew
      have c0 : wr.drew.cell? ⟨w5.heap.size, 2, none⟩ = some v := rowCell HGd.out.blk rfl
      refine wp_region_held_tail (S := fun w' => w'.cell? ⟨w5.heap.size, 2, none⟩ = some v) 9 (by kernel_rfl) (by kernel_rfl) (by kernel_rfl) ?_
      have hHeld : (fun w' : World => w'.cell? ⟨w5.heap.size, 2, none⟩ = some v) wr.drew := c0
      simp only [List.take_succ_cons, List.take_zero, List.replicate]
      refine wpAnyH_take (i := 0) (v := ?vva0) rfl (by kernel_rfl) (by kernel_rfl) (by kernel_rfl) (fun _ _ _ h => h) (Or.inl ⟨by rfl, ?hya0⟩) hHeld ?resta0; (case hya0 => (intro w hSw; (try dsimp only at hSw); go_simp; all_goals (with_reducible rfl))); simp only [Act.put, List.setIfInBounds_toArray, List.set_cons_zero, List.set_cons_succ]
      refine wpAnyH_take (i := 1) (v := ?vva1) rfl (by kernel_rfl) (by kernel_rfl) (by kernel_rfl) (fun _ _ _ h => h) (Or.inl ⟨by rfl, ?hya1⟩) hHeld ?resta1; (case hya1 => (intro w hSw; (try dsimp only at hSw); go_simp; all_goals (with_reducible rfl))); simp only [Act.put, List.setIfInBounds_toArray, List.set_cons_zero, List.set_cons_succ]
      refine wpAnyH_take (i := 2) (v := ?vva2) rfl (by kernel_rfl) (by kernel_rfl) (by kernel_rfl) (fun _ _ _ h => h) (Or.inl ⟨by rfl, ?hya2⟩) hHeld ?resta2; (case hya2 => (intro w hSw; (try dsimp only at hSw); go_simp; all_goals (with_reducible rfl))); simp only [Act.put, List.setIfInBounds_toArray, List.set_cons_zero, List.set_cons_succ]
      refine wpAnyH_take (i := 3) (v := ?vva3) rfl (by kernel_rfl) (by kernel_rfl) (by kernel_rfl) (fun _ _ _ h => h) (Or.inl ⟨by rfl, ?hya3⟩) hHeld ?resta3; (case hya3 => (intro w hSw; (try dsimp only at hSw); go_simp; all_goals (with_reducible rfl))); simp only [Act.put, List.setIfInBounds_toArray, List.set_cons_zero, List.set_cons_succ]
      refine wpAnyH_ready (rs := [4]) (by kernel_rfl) (by simp) ?_; refine AllReadyH.cons rfl (fun K hK => ?_) AllReadyH.nil
      go_simp
      go_at_call 14
      refine (next_any g r' 300 _ HGd.out.tp (by omega)).mono ?_
      rintro e w9 ⟨rfl, ht9, hg9⟩
      have hy := nx_bd r' 300 (by omega)
      have HG5 := Lib.hid (HGd.out.tape hg9 ht9)
      generalize nx r' 300 = y at *
      clear ht9 hg9
      refine hK.out _ _ (rowCell HG5.out.blk rfl) (fun hHeld => ?_)
      clear hK K
      (try simp only [Act.put, List.setIfInBounds_toArray, List.set_cons_zero, List.set_cons_succ])
      have hwsy : IntKind.i64.wrap (s + y) = s + y := IntWalk.i64_in _ (by omega)
      refine wpAnyH_take (i := 5) (v := ?vva5) rfl (by kernel_rfl) (by kernel_rfl) (by kernel_rfl) (fun _ _ _ h => h) (Or.inl ⟨by rfl, ?hya5⟩) hHeld ?resta5; (case hya5 => (intro w hSw; (try dsimp only at hSw); go_simp; all_goals (with_reducible rfl))); simp only [Act.put, List.setIfInBounds_toArray, List.set_cons_zero, List.set_cons_succ]
      refine wpAnyH_ready (rs := [6]) (by kernel_rfl) (by simp) ?_; refine AllReadyH.cons rfl (fun K hK => ?_) AllReadyH.nil
      go_simp
      refine hK.out _ _ (rowCell HG5.out.blk rfl) (fun hHeld => ?_)
      clear hK K
      (try simp only [Act.put, List.setIfInBounds_toArray, List.set_cons_zero, List.set_cons_succ])
      refine wpAnyH_ready (rs := [7]) (by kernel_rfl) (by simp) ?_; refine AllReadyH.cons rfl (fun K hK => ?_) AllReadyH.nil
      go_simp
      refine hK.out _ _ (rowCell (HG5.out.alloc _).blk rfl) (fun hHeld => ?_)
      clear hK K
      (try simp only [Act.put, List.setIfInBounds_toArray, List.set_cons_zero, List.set_cons_succ])
      refine wpAnyH_ready (rs := [8]) (by kernel_rfl) (by simp) ?_; refine AllReadyH.cons rfl (fun K hK => ?_) AllReadyH.nil
      refine step_append_any _ rfl (.tmp 37) (.tmp 43) 22 rfl w6.heap.size 3 i0 (.int .i64 0) 1 8 Try.underlying22 hi hz0 hz1 hz2 rfl (by omega) v sn.length (sn.map (Value.int .i64)) rfl (HG5.out.alloc _).o _ _ 1 1 [.int .i64 (min 1000 (s + y))] rfl ⟨rfl, fun _ => ⟨_, rfl, Nat.lt_succ_self _, fun j u hu => (by exact news_any _ _ _ j u hu)⟩⟩ (by simp [Value.oneCell']) (by simp only [maxLen]; omega) (by omega) (HG5.out.alloc _).sz ?_
      intro v6 w10 hown6 hg6 hat6
      obtain ⟨A6, e6, rfl, _, _, _⟩ := own_slice hown6
      have HG7 := Lib.hid ((HG5.out.alloc _).app hown6 hg6)
      clear hown6 hg6 hat6
      refine hK.out _ _ (rowCell HG7.out.blk rfl) (fun hHeld => ?_)
      clear hK K
      (try simp only [Act.put, List.setIfInBounds_toArray, List.set_cons_zero, List.set_cons_succ])
      refine wpAnyH_done (by kernel_rfl) ?_ _
      clear hHeld c0
      show wpList _ _ _ _ _ _
      simp only [List.drop_succ_cons, List.drop_zero]
      have c1 : w10.cell? ⟨w5.heap.size, 2, none⟩ = some v := rowCell HG7.out.blk rfl
      have f1 := frozen_of_row w10 w5.heap.size 2 _ _ HG7.out.blk
      go_wp2
      go_roundw
      case rel => exact ⟨t + 1, sn ++ [min 1000 (s + y)], _, _, by go_num, by rw [List.length_append, Hst.out]; rfl, by omega, HG7.out.put (setRow _ HG7.out.blk rfl), Hgd.out.push (by omega) (by rw [Hgt.out]; omega)⟩
      case measure => simp [intOf]; omega
    · have htt' : ¬ (t : Int) < (m : Int) := by omega
      obtain ⟨w7, hw7⟩ : ∃ w7 : World, w7 = wr := ⟨_, rfl⟩
      subst hw7
      have Hsm : Hid (sn.length = q.ss.length) := Lib.hid (by have := Hst.out; have := Hm.out; omega)
      obtain ⟨A6, e6, rfl, _, _, _⟩ := own_slice HG.out.o
      go_upto_region 11 with fail
      have HGd := Lib.hid HG.out.drew
      have c0 : w7.drew.cell? ⟨w5.heap.size, 3, none⟩ = some (.int .i64 q.le) := rowCell HGd.out.blk rfl
      refine wp_region_held_tail (S := fun w' => w'.cell? ⟨w5.heap.size, 3, none⟩ = some (.int .i64 q.le)) 5 (by kernel_rfl) (by kernel_rfl) (by kernel_rfl) ?_
      have hHeld : (fun w' : World => w'.cell? ⟨w5.heap.size, 3, none⟩ = some (.int .i64 q.le)) w7.drew := c0
      simp only [List.take_succ_cons, List.take_zero, List.replicate]
      refine wpAnyH_take (i := 0) (v := ?vvb0) rfl (by kernel_rfl) (by kernel_rfl) (by kernel_rfl) (fun _ _ _ h => h) (Or.inl ⟨by rfl, ?hyb0⟩) hHeld ?restb0; (case hyb0 => (intro w hSw; (try dsimp only at hSw); go_simp; all_goals (with_reducible rfl))); simp only [Act.put, List.setIfInBounds_toArray, List.set_cons_zero, List.set_cons_succ]
      refine wpAnyH_take (i := 1) (v := ?vvb1) rfl (by kernel_rfl) (by kernel_rfl) (by kernel_rfl) (fun _ _ _ h => h) (Or.inl ⟨by rfl, ?hyb1⟩) hHeld ?restb1; (case hyb1 => (intro w hSw; (try dsimp only at hSw); go_simp; all_goals (with_reducible rfl))); simp only [Act.put, List.setIfInBounds_toArray, List.set_cons_zero, List.set_cons_succ]
      refine wpAnyH_take (i := 2) (v := ?vvb2) rfl (by kernel_rfl) (by kernel_rfl) (by kernel_rfl) (fun _ _ _ h => h) (Or.inl ⟨by rfl, ?hyb2⟩) hHeld ?restb2; (case hyb2 => (intro w hSw; (try dsimp only at hSw); go_simp; all_goals (with_reducible rfl))); simp only [Act.put, List.setIfInBounds_toArray, List.set_cons_zero, List.set_cons_succ]
      refine wpAnyH_ready (rs := [3]) (by kernel_rfl) (by simp) ?_; refine AllReadyH.cons rfl (fun K hK => ?_) AllReadyH.nil
      go_simp
      go_at_call 14
      refine (next_any g r' 3 _ HGd.out.tp (by omega)).mono ?_
      rintro e w9 ⟨rfl, ht9, hg9⟩
      have hz := nx_bd r' 3 (by omega)
      have HG9 := Lib.hid (HGd.out.tape hg9 ht9)
      generalize nx r' 3 = z at *
      clear ht9 hg9
      refine hK.out _ _ (rowCell HG9.out.blk rfl) (fun hHeld => ?_)
      clear hK K
      (try simp only [Act.put, List.setIfInBounds_toArray, List.set_cons_zero, List.set_cons_succ])
      have hwz : IntKind.i64.wrap (q.le + z) = q.le + z := IntWalk.i64_in _ (by omega)
      refine wpAnyH_take (i := 4) (v := ?vvb4) rfl (by kernel_rfl) (by kernel_rfl) (by kernel_rfl) (fun _ _ _ h => h) (Or.inl ⟨by rfl, ?hyb4⟩) hHeld ?restb4; (case hyb4 => (intro w hSw; (try dsimp only at hSw); go_simp; all_goals (with_reducible rfl))); simp only [Act.put, List.setIfInBounds_toArray, List.set_cons_zero, List.set_cons_succ]
      refine wpAnyH_done (by kernel_rfl) ?_ _
      clear hHeld c0
      show wpList _ _ _ _ _ _
      simp only [List.drop_succ_cons, List.drop_zero]
      have c1 : w9.cell? ⟨w5.heap.size, 3, none⟩ = some (.int .i64 q.le) := rowCell HG9.out.blk rfl
      have f1 := frozen_of_row w9 w5.heap.size 3 _ _ HG9.out.blk
      go_upto_region 12 with fail
      obtain ⟨w10, hw10⟩ : ∃ w10 : World, w10 = w9.setCell ⟨w5.heap.size, 3, none⟩ (.int .i64 (q.le + z)) := ⟨_, rfl⟩
      rw [← hw10]
      have HG10 : Hid (Gro w5 w6 w10 g w5.heap.size (.cells #[.slice p.a1 q.ws.length p.c1, .slice p.a2 q.ls.length p.c2, .slice A6 sn.length e6, .int .i64 (q.le + z), .int .i64 q.ra] 24 (0, 0)) (.slice A6 sn.length e6) sn r'.tail) := Lib.hid (by
        rw [hw10]
        exact HG9.out.put (setRow _ HG9.out.blk rfl))
      clear hw10 c1 f1 HG9 HGd HG
      have Ho10 := Lib.hid (Ho5.out.gro Hb56.out (Nat.le_refl _) HG10.out hg1)
      have HU10 := Lib.hid (HU.out.gro Hb56.out (Nat.le_refl _) HG10.out (by omega))
      have HP10 := Lib.hid ((HG10.out.kp w2.heap.size (by have := HG10.out.hK; omega) (by omega) (by omega)).trans HP6.out)
      have HM10 := Lib.hid HG10.out.blk
      have Hgw10 := Lib.hid HG10.out.gr
      have hs10 := Hgw10.out.size
      have HSl10 : Hid (SlU w10 UA l.length uc l) := Lib.hid (by have := HU10.out; rw [← HN.out] at this; exact this.slu)
      have hX10 := HG10.out.hK
      have hs610 := HG10.out.sz
      have Hck2 : Hid (checkP (moreP q sn (q.le + z)) = 0) := Lib.hid (more_check Hck.out Hsm.out Hgd.out.1 (by omega))
      have Hok2 := Lib.hid (more_units Hok.out Hck2.out)
      have HC1 : Hid (Calls Try.prog 27 #[.agg #[.slice p.a1 q.ws.length p.c1, .slice p.a2 q.ls.length p.c2, .slice p.a3 q.ss.length p.c3, .int .i64 q.le, .int .i64 q.ra], .slice UA N uc, .int .u64 seed] w10 (ChoosePost w10 (chooseP q (uns l) seed))) := Lib.hid (by
        have := chooseS_any p q UA uc l seed w10 Ho10.out.at HSl10.out
        rw [HN.out] at this
        exact this)
      have HC2 : Hid (∀ W, Below w10.heap.size w10 W → Calls Try.prog 27 #[.agg #[.slice p.a1 q.ws.length p.c1, .slice p.a2 q.ls.length p.c2, .slice A6 sn.length e6, .int .i64 (q.le + z), .int .i64 q.ra], .slice UA N uc, .int .u64 seed] W (ChoosePost W (chooseP (moreP q sn (q.le + z)) (uns l) seed))) := Lib.hid (fun W hW => by
        have := chooseS_any ⟨p.a1, p.c1, p.a2, p.c2, A6, e6⟩ (moreP q sn (q.le + z)) UA uc l seed W ⟨Ho10.out.at.s1.below hW, Ho10.out.at.s2.below hW, (Sl.of_own HG10.out.o (by simp)).below hW⟩ (HSl10.out.below hW)
        rw [HN.out] at this
        exact this)
      have Hsub := Lib.hid (grows_sub Hok.out Hok2.out seed Hsm.out (by omega) (fun s hs => Hgd.out.2 s (by have := Hsm.out; omega)))
      have He1 := Lib.hid (choose_err Hok.out seed)
      have He2 := Lib.hid (choose_err Hok2.out seed)
      have Hl1 : Hid ((chooseP q (uns l) seed).1.length ≤ 1000) := Lib.hid (by have := choose_len Hok.out seed; rw [uns_len, HN.out] at this; omega)
      have Hl2 : Hid ((chooseP (moreP q sn (q.le + z)) (uns l) seed).1.length ≤ 1000) := Lib.hid (by have := choose_len Hok2.out seed; rw [uns_len, HN.out] at this; omega)
      obtain ⟨c1, hc1⟩ : ∃ c1, chooseP q (uns l) seed = c1 := ⟨_, rfl⟩
      obtain ⟨c2, hc2⟩ : ∃ c2, chooseP (moreP q sn (q.le + z)) (uns l) seed = c2 := ⟨_, rfl⟩
      rw [hc1] at HC1 He1 Hl1 Hsub
      simp only [hc2] at HC2 He2 Hl2 Hsub
      clear hc1 hc2
      obtain ⟨k1, e1⟩ := c1
      obtain ⟨k2, e2⟩ := c2
      have he1 := He1.out
      have he2 := He2.out
      dsimp only at he1 he2 Hsub Hl1 Hl2
      subst he1 he2
      have p0 := rowCell HP10.out (i := 0) rfl
      have p1 := rowCell HP10.out (i := 1) rfl
      have p2 := rowCell HP10.out (i := 2) rfl
      have p3 := rowCell HP10.out (i := 3) rfl
      have p4 := rowCell HP10.out (i := 4) rfl
      have m0 := rowCell HM10.out (i := 0) rfl
      have m1 := rowCell HM10.out (i := 1) rfl
      have m2 := rowCell HM10.out (i := 2) rfl
      have m3 := rowCell HM10.out (i := 3) rfl
      have m4 := rowCell HM10.out (i := 4) rfl
      clear m0 m1 m2 m3 m4
      go_wp2_with fail
      refine HC1.out.mono ?_
      rintro e w11 ⟨v1, rfl, hown1, hb11⟩
      dsimp only at hown1
      obtain ⟨KA, kc, rfl, hSk⟩ := SlK.of_own hown1
      have HSk := Lib.hid hSk
      have Hb11 := Lib.hid hb11
      have hs11 := hb11.size
      have HM11 := Lib.hid ((hb11.block w5.heap.size (by omega)).trans HM10.out)
      clear hown1 hSk hb11 p0 p1 p2 p3 p4 HC1
      have p0 := rowCell HM11.out (i := 0) rfl
      have p1 := rowCell HM11.out (i := 1) rfl
      have p2 := rowCell HM11.out (i := 2) rfl
      have p3 := rowCell HM11.out (i := 3) rfl
      have p4 := rowCell HM11.out (i := 4) rfl
      go_wp2_with fail
      refine (HC2.out _ Hb11.out).mono ?_
      rintro e w12 ⟨v2, rfl, hown2, hb12⟩
      dsimp only at hown2
      obtain ⟨LA, lc, rfl, hSl⟩ := SlK.of_own hown2
      have HSl := Lib.hid hSl
      have Hb12 := Lib.hid hb12
      have Hb1012 := Lib.hid (Hb11.out.trans (hb12.mono hs11))
      have HSk12 := Lib.hid (HSk.out.below hb12)
      have hs12 := Hb1012.out.size
      clear hown2 hSl p0 p1 p2 p3 p4 HC2 hb12
      obtain ⟨n1, hn1⟩ : ∃ n1, k1.length = n1 := ⟨_, rfl⟩
      obtain ⟨n2, hn2⟩ : ∃ n2, k2.length = n2 := ⟨_, rfl⟩
      have Hn1 := Lib.hid hn1
      have Hn2 := Lib.hid hn2
      rw [hn1] at HSk12 Hl1 ⊢
      rw [hn2] at HSl Hl2 ⊢
      clear hn1 hn2 HSk
      have hl1 := Hl1.out
      have hl2 := Hl2.out
      go_upto_region 16 with fail
      go_wp2_with fail
      go_loopw [16, 17, 19, 75, 81] (fun _ _ _ i _ wr => ∃ t3 : Nat, t3 ≤ n1 ∧ i = .int .i64 (t3 : Int) ∧ Below w12.heap.size w12 wr) (fun _ _ _ i _ _ => n1 - (intOf i).toNat)
      case atStart => exact ⟨0, Nat.zero_le _, rfl, Below.refl _ _⟩
      case round =>
        obtain ⟨t3, ht3, rfl, hbw⟩ := hrel
        have Hbw := Lib.hid hbw
        have hsw := hbw.size
        clear hbw
        by_cases htn : t3 < n1
        · have htn' : (t3 : Int) < (n1 : Int) := by omega
          have htl : t3 < k1.length := by have := Hn1.out; omega
          obtain ⟨b, off, rfl, hb, g0, g1⟩ := (HSk12.out.below Hbw.out).at t3 htl
          have Hmem := Lib.hid (Hsub.out k1[t3] (List.getElem_mem htl))
          obtain ⟨a, ha⟩ : ∃ a, k1[t3] = a := ⟨_, rfl⟩
          rw [ha] at g0 g1 Hmem
          clear ha htl
          obtain ⟨ax, ay⟩ := a
          dsimp only at g0 g1
          go_upto_region 20 with fail
          obtain ⟨w13, hw13⟩ : ∃ w13 : World, w13 = wr.alloc (.cells #[.int .i64 ax, .int .i64 ay] 55) := ⟨_, rfl⟩
          rw [← hw13]
          have HY : Hid (w13.heap[wr.heap.size]? = some (.cells #[.int .i64 ax, .int .i64 ay] 55 (0, 0))) := Lib.hid (by rw [hw13]; exact heap_alloc_new wr _)
          have Hb13 : Hid (Below wr.heap.size wr w13) := Lib.hid (by rw [hw13]; exact (by repeat' (first | with_reducible exact Below.refl _ _ | with_reducible refine below_drewN ?_ _ | with_reducible refine Below.drew ?_ | with_reducible refine Below.alloc ?_ ?_ _ | with_reducible refine Below.setCell ?_ ?_ _ | with_reducible refine Below.trans ?_ (Below.mono (by with_reducible assumption) ?_) | (simp; done) | (simp; omega) | omega)))
          have hs13 : wr.heap.size < w13.heap.size := by rw [hw13]; simp
          have HSl13 := Lib.hid (HSl.out.below (Hbw.out.trans (Hb13.out.mono hsw)))
          clear hw13 g0 g1
          obtain ⟨wo, rfl⟩ : ∃ wo : World, wo = wr := ⟨_, rfl⟩
          go_wp2_with fail
          go_loopw [17, 19, 81] (fun f _ i wq => ∃ t4 : Nat, t4 ≤ n2 ∧ i = .int .i64 (t4 : Int) ∧ f = .bool (decide ((ax, ay) ∈ k2.take t4)) ∧ Below w13.heap.size w13 wq) (fun _ _ i _ => n2 - (intOf i).toNat)
          case atStart => exact ⟨0, Nat.zero_le _, rfl, by simp, Below.refl _ _⟩
          case round =>
            obtain ⟨t4, ht4, rfl, rfl, hbq⟩ := hrel
            have Hbq := Lib.hid hbq
            have hsq := hbq.size
            clear hbq
            by_cases htm : t4 < n2
            · have htm' : (t4 : Int) < (n2 : Int) := by omega
              have htl : t4 < k2.length := by have := Hn2.out; omega
              obtain ⟨b2, off2, rfl, hb2, d0, d1⟩ := (HSl13.out.below Hbq.out).at t4 htl
              have Hstep : Hid (decide ((ax, ay) ∈ k2.take (t4 + 1)) = (decide ((ax, ay) ∈ k2.take t4) || decide ((ax, ay) = k2[t4]))) := Lib.hid (by
                rw [List.take_succ_eq_append_getElem htl]
                simp only [List.mem_append, List.mem_singleton]
                by_cases h1 : (ax, ay) ∈ k2.take t4 <;> by_cases h2 : (ax, ay) = k2[t4] <;> simp [h1, h2])
              obtain ⟨bb, hbb⟩ : ∃ bb, k2[t4] = bb := ⟨_, rfl⟩
              rw [hbb] at d0 d1 Hstep
              clear hbb htl
              obtain ⟨bx, by_⟩ := bb
              dsimp only at d0 d1
              have y0 := rowCell ((Hbq.out.block wo.heap.size hs13).trans HY.out) (i := 0) rfl
              have y1 := rowCell ((Hbq.out.block wo.heap.size hs13).trans HY.out) (i := 1) rfl
              generalize decide ((ax, ay) ∈ k2.take t4) = fo at *
              have heq := k_eql
              have hgd2 := kGuard
              have Hal : Hid (Below w13.heap.size w13 (wr.alloc (.cells #[.int .i64 bx, .int .i64 by_] 55))) := Lib.hid (Hbq.out.alloc hsq _)
              cases fo with
              | true =>
                have Hs2 : Hid (decide ((ax, ay) ∈ k2.take (t4 + 1)) = true) := Lib.hid (by rw [Hstep.out]; rfl)
                clear Hstep
                go_wp2
                go_roundw
                case rel => exact ⟨t4 + 1, by omega, by go_num, by rw [Hs2.out], Hal.out⟩
                case measure => simp [intOf]; omega
              | false =>
                have Hs2 : Hid (decide ((ax, ay) ∈ k2.take (t4 + 1)) = (ax == bx && ay == by_)) := Lib.hid (by
                  rw [Hstep.out]
                  by_cases h1 : ax = bx <;> by_cases h2 : ay = by_ <;> simp [h1, h2])
                clear Hstep
                have hwo1 : wo.heap.size < wr.heap.size := by omega
                go_wp2
                go_roundw
                case rel => exact ⟨t4 + 1, by omega, by go_num, by rw [Hs2.out], Hal.out⟩
                case measure => simp [intOf]; omega
            · have htm' : ¬ (t4 : Int) < (n2 : Int) := by omega
              rw [decide_eq_true (show (ax, ay) ∈ k2.take t4 by rw [List.take_of_length_le (by have := Hn2.out; omega)]; exact Hmem.out)]
              go_wp2
              go_roundw
              case rel => exact ⟨t3 + 1, by omega, by go_num, (Hbw.out.trans (Hb13.out.mono hsw)).trans (Hbq.out.mono (by omega))⟩
              case measure => simp [intOf]; omega
        · have htn' : ¬ (t3 : Int) < (n1 : Int) := by omega
          go_wp2_with fail
          refine (awake25_any _).mono ?_
          rintro e w14 ⟨rfl, hb14⟩
          have Hb14 := Lib.hid hb14
          clear hb14
          go_wp2
          go_ret
          refine ⟨rfl, ?_⟩
          have h1 : Below w10.heap.size w10 w14 := (Hb1012.out.trans (Hbw.out.mono hs12)).trans (Hb14.out.mono (by omega))
          exact (below_only (below_only Hb1.out Hg5.out hwg hs1) Hgw10.out hwg (by omega)).trans (h1.mono (by omega))
end Go.Proofs.Ytjmbdfoegnfpnaa
