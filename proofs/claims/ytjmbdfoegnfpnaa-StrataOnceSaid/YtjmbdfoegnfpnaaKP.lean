/- The walk of StrataOnce. -/
import Derived.Test.YtjmbdfoegnfpnaaKO
import Derived.Test.YtjmbdfoegnfpnaaKS
namespace Go.Proofs.Ytjmbdfoegnfpnaa
open Go.RowKit
set_option linter.unusedVariables false
set_option linter.unusedSimpArgs false

theorem made1 (W : World) (o : Obj) (e : TypeId) (z : Value) (n : Nat) (hn : n ≤ maxLen) : ((W.alloc (.cells (madeCells #[z] n) e)).alloc o).ownsRow W.heap.size e 1 (.slice (some ⟨W.heap.size, 0, none⟩) n n) n (List.replicate n z) :=
  ownsRow_below (own_made W e z n hn) ((Below.refl _ _).alloc (Nat.le_refl _) o)
theorem made2 (W : World) (o : Obj) (e : TypeId) (z : Value) (n : Nat) (hn : n ≤ maxLen) : ((W.alloc o).alloc (.cells (madeCells #[z] n) e)).ownsRow W.heap.size e 1 (.slice (some ⟨W.heap.size + 1, 0, none⟩) n n) n (List.replicate n z) := by
  have := own_made (W.alloc o) e z n hn
  rw [World.size_alloc] at this
  exact own_rebase this (by omega)
theorem scoreP_dot {q : Pl} {l : List Un} (h : unitsP q l = 0) {u : Un} (hu : u ∈ l) : scoreP q u = dot q.ws u.fs := by
  obtain ⟨hc, _, h1, _⟩ := units_ok h
  obtain ⟨h2, h3⟩ := h1 u hu
  unfold scoreP
  rw [if_neg]
  rintro (h4 | h4 | h4)
  · exact h4 hc
  · simp [outP] at h4; omega
  · rw [h3] at h4; cases h4
theorem rand_skip {R : List Int} {l : List Un} {u : Un} (h : u.fm ∉ R) : ((farms (l ++ [u])).filter fun x => decide (x ∈ R)).length = ((farms l).filter fun x => decide (x ∈ R)).length := by
  have e : farms (l ++ [u]) = farms l ++ [u.fm] := by simp [farms]
  rw [e, List.filter_append]
  simp [h]
theorem rand_add {R : List Int} {l : List Un} {u : Un} (h : u.fm ∈ R) : ((farms (l ++ [u])).filter fun x => decide (x ∈ R)).length = ((farms l).filter fun x => decide (x ∈ R)).length + 1 := by
  have e : farms (l ++ [u]) = farms l ++ [u.fm] := by simp [farms]
  rw [e, List.filter_append]
  simp [h]
theorem lensP_at (q : Pl) (R : List Int) (m : Nat) (l : List Un) {s : Nat} (h : s < m) : (lensP (rowsP q R m l))[s]? = some ((restP q l R s).length : Int) := by
  simp [lensP, rowsP, restP, h]
theorem picks_add {f : Int → Option Int} {l : List Un} {u : Un} {v : Int} (h : f u.fm = some v) : (picks f (farms (l ++ [u]))).length = (picks f (farms l)).length + 1 := by
  have e : farms (l ++ [u]) = farms l ++ [u.fm] := by simp [farms]
  rw [e, picks_snoc, h]
  simp
theorem picks_skip {f : Int → Option Int} {l : List Un} {u : Un} (h : f u.fm = none) : (picks f (farms (l ++ [u]))).length = (picks f (farms l)).length := by
  have e : farms (l ++ [u]) = farms l ++ [u.fm] := by simp [farms]
  rw [e, picks_snoc, h]
  simp

set_option maxHeartbeats 20000000 in
set_option maxRecDepth 100000 in
theorem onceLaw25 (A : Option Addr) (n c : Nat) (zs : List Int) (seed : Int) (w : World) (hn : zs.length = n) (hc : n ≤ c) (hm : c ≤ maxLen) (hw : ∀ z ∈ zs, (Lit.int .i64 z).wf = true) (hA : Lies w A n (zs.map (.int .i64))) :
    Calls Try.prog 5 #[.slice A n c, .int .u64 seed] w fun e w' => e = .returned (.bool true) ∧ Below w.heap.size w w' := by
  have HN := Lib.hid (new_any A n c zs w hn hc hm hw hA)
  clear hn hc hm hw hA
  go_enter Try.func5, Try.ntmps5
  go_wp2_with fail
  refine HN.out.mono ?_
  rintro e w1 ⟨g, rfl, hwg, ht1, hb1⟩
  have Ht1 := Lib.hid ht1
  have Hb1 := Lib.hid hb1
  have hg1 := ht1.lt
  have hs1 := hb1.size
  clear ht1 hb1 HN
  go_wp2_with fail
  refine (plan_any g _ w1 Ht1.out).mono ?_
  rintro e w2 ⟨p, q, r2, rfl, ho2, ht2, hg2, hck, hle⟩
  have Ho2 := Lib.hid ho2
  have Ht2 := Lib.hid ht2
  have Hg2 := Lib.hid hg2
  have Hck := Lib.hid hck
  have Hle2 := Lib.hid hle
  have hs2 := hg2.size
  clear ho2 ht2 hg2 hck hle Ht1
  go_upto_region 3 with fail
  obtain ⟨w3, hw3⟩ : ∃ w3 : World, w3 = w2.alloc (.cells #[.slice p.a1 q.ws.length p.c1, .slice p.a2 q.ls.length p.c2, .slice p.a3 q.ss.length p.c3, .int .i64 q.le, .int .i64 q.ra] 24) := ⟨_, rfl⟩
  rw [← hw3]
  have Hb23 : Hid (Below w2.heap.size w2 w3) := Lib.hid (by rw [hw3]; exact (by repeat' (first | with_reducible exact Below.refl _ _ | with_reducible refine below_drewN ?_ _ | with_reducible refine Below.drew ?_ | with_reducible refine Below.alloc ?_ ?_ _ | with_reducible refine Below.setCell ?_ ?_ _ | with_reducible refine Below.trans ?_ (Below.mono (by with_reducible assumption) ?_) | (simp; done) | (simp; omega) | omega)))
  have HP3 : Hid (w3.heap[w2.heap.size]? = some (.cells #[.slice p.a1 q.ws.length p.c1, .slice p.a2 q.ls.length p.c2, .slice p.a3 q.ss.length p.c3, .int .i64 q.le, .int .i64 q.ra] 24 (0, 0))) := Lib.hid (by rw [hw3]; exact heap_alloc_new w2 _)
  have hlt3 : w2.heap.size < w3.heap.size := by rw [hw3]; simp
  have Hg3 : Hid (w1.grownBy w3 (some g)) := Lib.hid (only_below Hg2.out Hb23.out hs2)
  have Ht3 := Lib.hid (Ht2.out.below Hb23.out (by omega))
  have Ho3 := Lib.hid (Ho2.out.below Hb23.out)
  clear hw3 Hg2 Ht2 Ho2
  have hwl : q.ws.length ≤ 1000 := by have := ((planB_iff q).1 (checkP_zero Hck.out)).1; omega
  have p0 := rowCell HP3.out (i := 0) rfl
  have p1 := rowCell HP3.out (i := 1) rfl
  have p2 := rowCell HP3.out (i := 2) rfl
  have p3 := rowCell HP3.out (i := 3) rfl
  have p4 := rowCell HP3.out (i := 4) rfl
  go_wp2_with fail
  refine (units_any g r2 p q 15 w3 Ht3.out (by omega) hwl).mono ?_
  rintro e w5 ⟨l, UA, uc, r5, rfl, hU, ht5, hg5, hok, hlen⟩
  clear p0 p1 p2 p3 p4
  have HU := Lib.hid hU
  have Ht5 := Lib.hid ht5
  have Hg35 := Lib.hid hg5
  have Hg5 := Lib.hid (only_trans Hg3.out hg5)
  have Hok := Lib.hid (hok Hck.out)
  have hs5 := hg5.size
  have Ho5 := Lib.hid (Ho3.out.only hg5 (by omega))
  have HP5 : Hid (w5.heap[w2.heap.size]? = some (.cells #[.slice p.a1 q.ws.length p.c1, .slice p.a2 q.ls.length p.c2, .slice p.a3 q.ss.length p.c3, .int .i64 q.le, .int .i64 q.ra] 24 (0, 0))) := Lib.hid ((hg5.block _ hlt3 (fun e => by injection e; omega)).trans HP3.out)
  clear hU ht5 hg5 hok Ht3 Ho3 HP3 Hg3

  have hN15 := hlen
  obtain ⟨N, hN⟩ : ∃ N, l.length = N := ⟨_, rfl⟩
  have HN := Lib.hid hN
  have HSu : Hid (SlU w5 UA l.length uc l) := Lib.hid HU.out.slu
  rw [hN] at hN15 HU HSu ⊢
  clear hN hlen
  obtain ⟨m, hm⟩ : ∃ m, q.ss.length = m := ⟨_, rfl⟩
  have Hm := Lib.hid hm
  have hm6 : 1 ≤ m ∧ m ≤ 6 := by
    obtain ⟨-, -, h1, -, h2, -⟩ := (planB_iff q).1 (checkP_zero Hck.out)
    omega
  have Hsl : Hid (∀ u, strOf q u < m) := Lib.hid (fun u => by
    obtain ⟨-, -, h1, -, h2, -⟩ := (planB_iff q).1 (checkP_zero Hck.out)
    have := strOf_lt q u
    omega)
  clear hm
  have HC1 : Hid (Calls Try.prog 27 #[.agg #[.slice p.a1 q.ws.length p.c1, .slice p.a2 q.ls.length p.c2, .slice p.a3 q.ss.length p.c3, .int .i64 q.le, .int .i64 q.ra], .slice UA N uc, .int .u64 seed] w5 (ChoosePost w5 (chooseP q (uns l) seed))) := Lib.hid (by
    have := chooseS_any p q UA uc l seed w5 Ho5.out.at (by have := HSu.out; rwa [← HN.out] at this)
    rw [HN.out] at this
    exact this)
  obtain ⟨R, hR⟩ : ∃ R, randP q (uns l) seed = R := ⟨_, rfl⟩
  obtain ⟨f, hf⟩ : ∃ f, mapF q (uns l) seed R q.ss.length = f := ⟨_, rfl⟩
  have Hcp : Hid (chooseP q (uns l) seed = (picks f (farms (uns l)), 0)) := Lib.hid (by
    unfold chooseP
    rw [if_neg (by rw [Hok.out]; simp), hR, hf])
  have Hf := Lib.hid hf
  have HR := Lib.hid hR
  have Hor := Lib.hid (once_rand Hok.out seed)
  rw [hR, uns_len, HN.out] at Hor
  rw [Hcp.out] at HC1
  clear hf hR
  obtain ⟨k1, hk1⟩ : ∃ k1, picks f (farms (uns l)) = k1 := ⟨_, rfl⟩
  have Hk1 := Lib.hid hk1
  rw [hk1] at HC1
  clear hk1
  have p0 := rowCell HP5.out (i := 0) rfl
  have p1 := rowCell HP5.out (i := 1) rfl
  have p2 := rowCell HP5.out (i := 2) rfl
  have p3 := rowCell HP5.out (i := 3) rfl
  have p4 := rowCell HP5.out (i := 4) rfl
  go_wp2_with fail
  refine HC1.out.mono ?_
  rintro e w6 ⟨v1, rfl, hown1, hb6⟩
  dsimp only at hown1
  obtain ⟨KA, kc, rfl, hSk⟩ := SlK.of_own hown1
  have HSk := Lib.hid hSk
  have Hb6 := Lib.hid hb6
  have hs6 := hb6.size
  have HP6 := Lib.hid ((hb6.block w2.heap.size (by omega)).trans HP5.out)
  have Ho6 := Lib.hid (Ho5.out.below hb6)
  have HSu6 := Lib.hid (HSu.out.below hb6)
  clear hown1 hSk hb6 p0 p1 p2 p3 p4 HC1
  have Hk60 : Hid (k1.length ≤ 60) := Lib.hid (by
    rw [← Hk1.out]
    have := picks_len f (farms (uns l))
    rw [farms_len, uns_len, HN.out] at this
    omega)
  obtain ⟨n1, hn1⟩ : ∃ n1, k1.length = n1 := ⟨_, rfl⟩
  have Hn1 := Lib.hid hn1
  rw [hn1] at HSk Hk60 ⊢
  clear hn1
  have P2 := rowCell HP6.out (i := 2) rfl
  rw [Hm.out] at P2
  have hlt6 : w2.heap.size < w6.heap.size := by omega
  have hmk2 := fun W : World => run_make_row' (P := Try.prog) 22 3 (.int .i64 0) 8 Try.underlying22 Try.infoIn rfl .i64 .i64 m (by omega) (by omega) W
  go_upto_region 7 with fail
  go_cut [10, 11] (fun s10 s11 wx => ∃ X Y : Nat, s10 = .slice (some ⟨X, 0, none⟩) m m ∧ s11 = .slice (some ⟨Y, 0, none⟩) m m ∧ X ≠ Y ∧ w6.heap.size ≤ X ∧ w6.heap.size ≤ Y ∧ wx.ownsRow w6.heap.size 3 1 (.slice (some ⟨X, 0, none⟩) m m) m (List.replicate m (.int .i64 0)) ∧ wx.ownsRow w6.heap.size 3 1 (.slice (some ⟨Y, 0, none⟩) m m) m (List.replicate m (.int .i64 0)) ∧ Below w6.heap.size w6 wx)
  case first =>
    go_region_held3 (fun w' => w'.cell? ⟨w2.heap.size, 2, none⟩ = some (.slice p.a3 m p.c3))
      (first | go_keep)
      (first | fail)
    all_goals go_wp2
    all_goals go_meet
    all_goals first
      | exact ⟨_, _, rfl, rfl, by omega, by omega, by omega, made1 w6.drew _ 3 (.int .i64 0) m (by unfold maxLen; omega), made2 w6.drew _ 3 (.int .i64 0) m (by unfold maxLen; omega), (by repeat' (first | with_reducible exact Below.refl _ _ | with_reducible refine below_drewN ?_ _ | with_reducible refine Below.drew ?_ | with_reducible refine Below.alloc ?_ ?_ _ | with_reducible refine Below.setCell ?_ ?_ _ | with_reducible refine Below.trans ?_ (Below.mono (by with_reducible assumption) ?_) | (simp; done) | (simp; omega) | omega))⟩
      | exact ⟨_, _, rfl, rfl, by omega, by omega, by omega, made2 w6.drew _ 3 (.int .i64 0) m (by unfold maxLen; omega), made1 w6.drew _ 3 (.int .i64 0) m (by unfold maxLen; omega), (by repeat' (first | with_reducible exact Below.refl _ _ | with_reducible refine below_drewN ?_ _ | with_reducible refine Below.drew ?_ | with_reducible refine Below.alloc ?_ ?_ _ | with_reducible refine Below.setCell ?_ ?_ _ | with_reducible refine Below.trans ?_ (Below.mono (by with_reducible assumption) ?_) | (simp; done) | (simp; omega) | omega))⟩
  case rest =>
    obtain ⟨w7, rfl⟩ : ∃ w7 : World, w7 = wc := ⟨_, rfl⟩
    obtain ⟨X, Y, rfl, rfl, hXY, hX6, hY6, hoX, hoY, hb7⟩ := hcut
    have HoX := Lib.hid hoX
    have HoY := Lib.hid hoY
    have Hb7 := Lib.hid hb7
    have hs7 := hb7.size
    clear hoX hoY hb7 P2 hmk2
    obtain ⟨D, hD⟩ : ∃ D : Nat → List Int, D = fun s => drawP q (uns l) seed R s := ⟨_, rfl⟩
    have HD : Hid (∀ s, D s = drawP q (uns l) seed R s) := Lib.hid (fun s => by rw [hD])
    clear hD
    go_upto_region 9 with fail
    go_wp2_with fail
    go_loopw [12, 13, 15, 16, 44] (fun rn at_ _ _ i wr => ∃ t : Nat, t ≤ N ∧ i = .int .i64 (t : Int) ∧ rn = .int .i64 (((farms (uns (l.take t))).filter fun x => decide (x ∈ R)).length : Int) ∧ at_ = .int .i64 ((picks f (farms (uns (l.take t)))).length : Int) ∧ wr.ownsRow w6.heap.size 3 1 (.slice (some ⟨X, 0, none⟩) m m) m ((lensP (rowsP q R m (uns (l.take t)))).map (.int .i64)) ∧ wr.ownsRow w6.heap.size 3 1 (.slice (some ⟨Y, 0, none⟩) m m) m ((chP q R D m (uns (l.take t))).map (.int .i64)) ∧ Below w6.heap.size w6 wr) (fun _ _ _ _ i _ => N - (intOf i).toNat)
    case atStart => exact ⟨0, Nat.zero_le _, rfl, rfl, rfl, by
        have := HoX.out
        rwa [show lensP (rowsP q R m (uns (l.take 0))) = List.replicate m 0 from lensP_nil q R m, List.map_replicate], by
        have := HoY.out
        rwa [show chP q R D m (uns (l.take 0)) = List.replicate m 0 from chP_nil q R D m, List.map_replicate], Hb7.out⟩
    case round =>
      obtain ⟨t, ht, rfl, rfl, rfl, hoX, hoY, hbw⟩ := hrel
      have HoXr := Lib.hid hoX
      have HoYr := Lib.hid hoY
      have Hbw := Lib.hid hbw
      have hsw := hbw.size
      clear hoX hoY hbw
      have hlt6r : w2.heap.size < wr.heap.size := by omega
      by_cases htN : t < N
      · have htN' : (t : Int) < (N : Int) := by omega
        have htl : t < l.length := by have := HN.out; omega
        obtain ⟨b, off, rfl, hb, g0, g1, hfit⟩ := (HSu6.out.below Hbw.out).at t htl
        have Hfit := Lib.hid hfit
        have Hst : Hid (uns (l.take (t + 1)) = uns (l.take t) ++ [l[t].1]) := Lib.hid (by rw [List.take_succ_eq_append_getElem htl]; unfold uns; rw [List.map_append]; rfl)
        have Hmem : Hid (l[t].1 ∈ uns l) := Lib.hid (by unfold uns; exact List.mem_map_of_mem (List.getElem_mem _))
        have Hfmt : Hid (∃ h : t < (farms (uns l)).length, (farms (uns l))[t]'h = l[t].1.fm) := Lib.hid ⟨by rw [farms_len, uns_len]; exact htl, by simp [farms, uns]⟩
        have Htk : Hid ((farms (uns l)).take t = farms (uns (l.take t))) := Lib.hid (by unfold farms uns; rw [List.map_take, List.map_take])
        obtain ⟨xx, hxx⟩ : ∃ xx, l[t] = xx := ⟨_, rfl⟩
        rw [hxx] at g0 g1 Hfit Hst Hmem Hfmt
        clear hxx hfit htl
        obtain ⟨u, v⟩ := xx
        dsimp only at g0 g1 Hfit Hst Hmem Hfmt
        have Hdot := Lib.hid (scoreP_dot Hok.out Hmem.out)
        obtain ⟨s, hs⟩ : ∃ s, strOf q u = s := ⟨_, rfl⟩
        have Hs := Lib.hid hs
        have hsm : s < m := by rw [← hs]; exact Hsl.out u
        clear hs
        have Hrc60 : Hid (((farms (uns (l.take t))).filter fun x => decide (x ∈ R)).length ≤ 60) := Lib.hid (by
          refine Nat.le_trans (List.length_filter_le _ _) ?_
          rw [farms_len, uns_len, List.length_take]
          omega)
        have Hrs60 : Hid ((restP q (uns (l.take t)) R s).length ≤ 60) := Lib.hid (by
          have := rest_len (q := q) (l := uns (l.take t)) (R := R) (s := s)
          rw [uns_len, List.length_take] at this
          omega)
        have HlX := Lib.hid (lensP_at q R m (uns (l.take t)) hsm)
        have HlY := Lib.hid (chP_at q R D m (uns (l.take t)) hsm)
        have Hch60 : Hid (((restP q (uns (l.take t)) R s).filter fun x => decide (x ∈ D s)).length ≤ 60) := Lib.hid (Nat.le_trans (List.length_filter_le _ _) Hrs60.out)
        have hrc60 := Hrc60.out
        have hrs60 := Hrs60.out
        have hch60 := Hch60.out
        go_upto_region 12 with fail
        obtain ⟨w8, hw8⟩ : ∃ w8 : World, w8 = wr.alloc (.cells #[.int .i64 u.fm, .slice v.a u.fs.length v.c] 27) := ⟨_, rfl⟩
        rw [← hw8]
        have Hu8 : Hid (w8.heap[wr.heap.size]? = some (.cells #[.int .i64 u.fm, .slice v.a u.fs.length v.c] 27 (0, 0))) := Lib.hid (by rw [hw8]; exact heap_alloc_new wr _)
        have Hbr8 : Hid (Below wr.heap.size wr w8) := Lib.hid (by rw [hw8]; exact (Below.refl _ _).alloc (Nat.le_refl _) _)
        have hs8 : wr.heap.size < w8.heap.size := by rw [hw8]; simp
        clear hw8
        have Hb68 : Hid (Below w6.heap.size w6 w8) := Lib.hid (Hbw.out.trans (Hbr8.out.mono hsw))
        have hlw8 : w2.heap.size < w8.heap.size := by omega
        have HP8 := Lib.hid ((Hb68.out.block w2.heap.size (by omega)).trans HP6.out)
        have p0 := rowCell HP8.out (i := 0) rfl
        have p1 := rowCell HP8.out (i := 1) rfl
        have p2 := rowCell HP8.out (i := 2) rfl
        have p3 := rowCell HP8.out (i := 3) rfl
        have p4 := rowCell HP8.out (i := 4) rfl
        have r0 := rowCell Hu8.out (i := 0) rfl
        have r1 := rowCell Hu8.out (i := 1) rfl
        have HSc : Hid (∀ W, Below w8.heap.size w8 W → Calls Try.prog 20 #[.agg #[.slice p.a1 q.ws.length p.c1, .slice p.a2 q.ls.length p.c2, .slice p.a3 q.ss.length p.c3, .int .i64 q.le, .int .i64 q.ra], .agg #[.int .i64 u.fm, .slice v.a u.fs.length v.c]] W fun e w' => e = .returned (.int .i64 (dot q.ws u.fs)) ∧ Below W.heap.size W w') := Lib.hid (fun W hW => by
          have := scoS_any p q v u W (Ho6.out.at.below (Hb68.out.trans (hW.mono Hb68.out.size))) (Hfit.out.below (Hbr8.out.trans (hW.mono Hbr8.out.size)))
          rw [Hdot.out] at this
          exact this)
        have HSt : Hid (∀ W, Below w8.heap.size w8 W → Calls Try.prog 18 #[.agg #[.slice p.a1 q.ws.length p.c1, .slice p.a2 q.ls.length p.c2, .slice p.a3 q.ss.length p.c3, .int .i64 q.le, .int .i64 q.ra], .int .i64 (dot q.ws u.fs)] W fun e w' => e = .returned (.int .i64 (s : Int)) ∧ Below W.heap.size W w') := Lib.hid (fun W hW => by
          have := stratS_any p q (dot q.ws u.fs) W (Ho6.out.at.below (Hb68.out.trans (hW.mono Hb68.out.size)))
          rw [stratP_ok Hck.out] at this
          rw [← Hs.out]
          exact this)
        generalize dot q.ws u.fs = dd at *
        refine wp_region_below (W := w8) w8.heap.size (Nat.le_refl _) (by kernel_rfl) (by kernel_rfl) ?_
        intro I _ F' hFc hFb hFs
        repeat (go_big_quiet_step ((first
          | (go_at_call 20; exact class_call hFb hFs (Nat.le_refl _) (HSc.out _ (hFb _)))
          | (go_at_call 18; exact class_call hFb hFs (Nat.le_refl _) (HSt.out _ (hFb _))))))
        refine wpQuiet_nil ?_
        rintro _ ⟨iq, rfl⟩
        obtain ⟨w9, hw9⟩ : ∃ w9 : World, w9 = F' iq := ⟨_, rfl⟩
        have Hb89 : Hid (Below w8.heap.size w8 w9) := Lib.hid (by rw [hw9]; exact hFb iq)
        rw [← hw9]
        clear hw9 hFc hFb hFs HSc HSt p0 p1 p2 p3 p4 r0 r1
        have Hbr9 : Hid (Below wr.heap.size wr w9) := Lib.hid (Hbr8.out.trans (Hb89.out.mono Hbr8.out.size))
        have Hb69 : Hid (Below w6.heap.size w6 w9) := Lib.hid (Hbw.out.trans (Hbr9.out.mono hsw))
        have hs9 := Hbr9.out.size
        have HX9 := Lib.hid (ownsRow_below HoXr.out Hbr9.out)
        have HY9 := Lib.hid (ownsRow_below HoYr.out Hbr9.out)
        have HP9 := Lib.hid ((Hb69.out.block w2.heap.size (by omega)).trans HP6.out)
        have P2 := rowCell HP9.out (i := 2) rfl
        rw [Hm.out] at P2
        have q0 := rowCell ((Hb89.out.block wr.heap.size hs8).trans Hu8.out) (i := 0) rfl
        have hs0 : ¬ (s : Int) < 0 := by omega
        have hs0d : decide ((s : Int) < 0) = false := decide_eq_false hs0
        have hsmI : ¬ (m : Int) ≤ (s : Int) := by omega
        have hsmId : decide ((m : Int) ≤ (s : Int)) = false := decide_eq_false hsmI
        have hsmN : decide (m ≤ s) = false := decide_eq_false (by omega)
        have hsmI2 : (s : Int) < (m : Int) := by omega
        have HX9t := own_top HX9.out (by omega)
        have HY9t := own_top HY9.out (by omega)
        have hX9 := HX9t.1
        have hY9 := HY9t.1
        have Hxc := Lib.hid HX9t.2.1
        have Hxf := Lib.hid HX9t.2.2
        have Hyc := Lib.hid HY9t.2.1
        have Hyf := Lib.hid HY9t.2.2
        clear HX9t HY9t
        have xc := Hxc.out s (.int .i64 ((restP q (uns (l.take t)) R s).length : Int)) (by rw [List.getElem?_map, HlX.out]; rfl)
        have yc := Hyc.out s (.int .i64 (((restP q (uns (l.take t)) R s).filter fun x => decide (x ∈ D s)).length : Int)) (by rw [List.getElem?_map, HlY.out]; rfl)
        have xf := Hxf.out s
        have yf := Hyf.out s
        have Hlset := Lib.hid (fun (h : u.fm ∉ R) => (show (lensP (rowsP q R m (uns (l.take (t + 1))))).map (Value.int .i64) = ((lensP (rowsP q R m (uns (l.take t)))).map (Value.int .i64)).set s (.int .i64 (((restP q (uns (l.take t)) R s).length : Int) + 1)) from by
          rw [Hst.out, rowsP_add h (by rw [Hs.out]; exact hsm), lensP_set, Hs.out]
          simp))
        have Hlskip := Lib.hid (fun (h : u.fm ∈ R) => (show lensP (rowsP q R m (uns (l.take (t + 1)))) = lensP (rowsP q R m (uns (l.take t))) from by rw [Hst.out, rowsP_skip h]))
        have Hcskip := Lib.hid (fun (h : u.fm ∈ R ∨ u.fm ∉ D s) => (show chP q R D m (uns (l.take (t + 1))) = chP q R D m (uns (l.take t)) from by rw [Hst.out, chP_skip (by rw [Hs.out]; exact h)]))
        have Hcset := Lib.hid (fun (h : u.fm ∉ R) (h2 : u.fm ∈ D s) => (show (chP q R D m (uns (l.take (t + 1)))).map (Value.int .i64) = ((chP q R D m (uns (l.take t))).map (Value.int .i64)).set s (.int .i64 ((((restP q (uns (l.take t)) R s).filter fun x => decide (x ∈ D s)).length : Int) + 1)) from by
          rw [Hst.out, chP_add h (by rw [Hs.out]; exact h2) (by rw [Hs.out]; exact hsm), Hs.out, List.map_set]))
        have Hpl : Hid ((picks f (farms (uns (l.take t)))).length ≤ 60) := Lib.hid (by
          refine Nat.le_trans (picks_len _ _) ?_
          rw [farms_len, uns_len, List.length_take]
          omega)
        have hpl := Hpl.out
        have Hhit := Lib.hid (fun (k : Int) (h : f u.fm = some k) => (show k1[(picks f (farms (uns (l.take t)))).length]? = some (u.fm, k) from by
          obtain ⟨h1, h2⟩ := Hfmt.out
          have := picks_hit (f := f) h1 (k := k) (by rw [h2]; exact h)
          rw [h2, Htk.out, Hk1.out] at this
          exact this))
        have Hmiss := Lib.hid (fun (h : f u.fm = none) (y : Int × Int) (hy : k1[(picks f (farms (uns (l.take t)))).length]? = some y) => (show y.1 ≠ u.fm from by
          obtain ⟨h1, h2⟩ := Hfmt.out
          rw [← h2]
          exact picks_miss (f := f) (farms_nodup Hok.out) h1 (by rw [h2]; exact h) (by rw [Htk.out, Hk1.out]; exact hy)))
        have HSk9 := Lib.hid (HSk.out.below Hb69.out)
        obtain ⟨pa, hpa⟩ : ∃ pa, (picks f (farms (uns (l.take t)))).length = pa := ⟨_, rfl⟩
        have HPA := Lib.hid hpa
        rw [hpa]
        simp only [hpa] at Hhit Hmiss Hpl hpl
        clear hpa
        cases hfu : f u.fm with
        | some k =>
          have hk1 := Hhit.out k hfu
          have hpn : pa < n1 := by
            have := (List.getElem?_eq_some_iff.1 hk1).1
            have := Hn1.out
            omega
          have hpl1 : pa < k1.length := by have := Hn1.out; omega
          obtain ⟨kb, koff, rfl, hkb, kc0, kc1⟩ := HSk9.out.at pa hpl1
          have hke : k1[pa] = (u.fm, k) := by
            rw [List.getElem?_eq_getElem hpl1] at hk1
            injection hk1
          rw [hke] at kc0 kc1
          dsimp only at kc0 kc1
          clear hke hk1 hpl1
          have hpnI : (pa : Int) < (n1 : Int) := by omega
          have hpnd : decide ((pa : Int) < (n1 : Int)) = true := decide_eq_true hpnI
          have hpnN : decide (pa < n1) = true := decide_eq_true hpn
          have Hpa : Hid ((picks f (farms (uns (l.take (t + 1))))).length = pa + 1) := Lib.hid (by rw [Hst.out, picks_add hfu, HPA.out])
          by_cases hkm : k = -1
          · have Hin : Hid (u.fm ∈ R) := Lib.hid (by
              have h1 := Hf.out
              rw [← h1] at hfu
              rw [hkm] at hfu
              exact (mapF_rand Hok.out seed R u.fm q.ss.length (Nat.le_refl _)).1 hfu)
            have Hrn : Hid (((farms (uns (l.take (t + 1)))).filter fun x => decide (x ∈ R)).length = ((farms (uns (l.take t))).filter fun x => decide (x ∈ R)).length + 1) := Lib.hid (by rw [Hst.out, rand_add Hin.out])
            have Hl1 := Lib.hid (Hlskip.out Hin.out)
            have Hl2 := Lib.hid (Hcskip.out (.inl Hin.out))
            subst hkm
            generalize ((farms (uns (l.take t))).filter fun x => decide (x ∈ R)).length = rc at *
            clear Hlset Hlskip Hcskip Hcset Hhit Hmiss hfu
            go_wp2_with fail
            go_quiet (fail)
            go_wp2
            go_roundw
            case rel => exact ⟨t + 1, by omega, by go_num, by rw [Hrn.out]; go_num, by rw [Hpa.out]; go_num, by rw [Hl1.out]; exact ownsRow_below HX9.out (by repeat' (first | with_reducible exact Below.refl _ _ | with_reducible assumption | with_reducible refine below_drewN ?_ _ | with_reducible refine Below.drew ?_ | with_reducible refine Below.alloc ?_ ?_ _ | with_reducible refine Below.setCell ?_ ?_ _ | with_reducible refine Below.trans ?_ (Below.mono (by with_reducible assumption) ?_) | with_reducible refine below_only ?_ (by with_reducible assumption) ?_ ?_ | (simp; done) | (simp; omega) | omega)), by rw [Hl2.out]; exact ownsRow_below HY9.out (by repeat' (first | with_reducible exact Below.refl _ _ | with_reducible assumption | with_reducible refine below_drewN ?_ _ | with_reducible refine Below.drew ?_ | with_reducible refine Below.alloc ?_ ?_ _ | with_reducible refine Below.setCell ?_ ?_ _ | with_reducible refine Below.trans ?_ (Below.mono (by with_reducible assumption) ?_) | with_reducible refine below_only ?_ (by with_reducible assumption) ?_ ?_ | (simp; done) | (simp; omega) | omega)), (have hq := Hb69.out; (by repeat' (first | with_reducible exact Below.refl _ _ | with_reducible assumption | with_reducible refine below_drewN ?_ _ | with_reducible refine Below.drew ?_ | with_reducible refine Below.alloc ?_ ?_ _ | with_reducible refine Below.setCell ?_ ?_ _ | with_reducible refine Below.trans ?_ (Below.mono (by with_reducible assumption) ?_) | with_reducible refine below_only ?_ (by with_reducible assumption) ?_ ?_ | (simp; done) | (simp; omega) | omega)))⟩
            case measure => simp [intOf]; omega
          · obtain ⟨hks, hkd, hkR⟩ : k = (s : Int) ∧ u.fm ∈ D s ∧ u.fm ∉ R := by
              have h1 := Hf.out
              rw [← h1] at hfu
              have := chosen_str Hok.out seed R Hmem.out hfu hkm
              rw [Hs.out] at this
              rw [HD.out]
              exact this
            have Hrn : Hid (((farms (uns (l.take (t + 1)))).filter fun x => decide (x ∈ R)).length = ((farms (uns (l.take t))).filter fun x => decide (x ∈ R)).length) := Lib.hid (by rw [Hst.out, rand_skip hkR])
            have Hl1 := Lib.hid (Hlset.out hkR)
            have Hl2 := Lib.hid (Hcset.out hkR hkd)
            subst hks
            generalize ((farms (uns (l.take t))).filter fun x => decide (x ∈ R)).length = rc at *
            generalize ((restP q (uns (l.take t)) R s).filter fun x => decide (x ∈ D s)).length = ch at *
            generalize (restP q (uns (l.take t)) R s).length = lf at *
            clear Hlset Hlskip Hcskip Hcset Hhit Hmiss hfu
            go_wp2_with fail
            go_quiet (fail)
            go_upto_region 20 with fail
            obtain ⟨wq, hwq⟩ : ∃ wq : World, Below w9.heap.size w9 wq ∧ wq = w9.drewN nq := ⟨_, below_drewN (Below.refl _ _) _, rfl⟩
            rw [← hwq.2]
            have Hbq := Lib.hid hwq.1
            clear hwq
            have HXq := Lib.hid (ownsRow_below HX9.out Hbq.out)
            have HYq := Lib.hid (ownsRow_below HY9.out Hbq.out)
            obtain ⟨-, hyq, hyqf⟩ := own_top HYq.out (by omega)
            have ycq := hyq s (.int .i64 (ch : Int)) (by rw [List.getElem?_map, HlY.out]; rfl)
            have yfq := hyqf s
            have HY2 := Lib.hid (own_setN HYq.out s (.int .i64 ((ch : Int) + 1)))
            have HX2 := Lib.hid (own_setTop HXq.out (p := ⟨Y, s, none⟩) (fun e => hXY e.symm) (.int .i64 ((ch : Int) + 1)))
            obtain ⟨-, hxq, hxqf⟩ := own_top HX2.out (by omega)
            have xcq := hxq s (.int .i64 (lf : Int)) (by rw [List.getElem?_map, HlX.out]; rfl)
            have xfq := hxqf s
            have HX3 := Lib.hid (own_setN HX2.out s (.int .i64 ((lf : Int) + 1)))
            have HY3 := Lib.hid (own_setTop HY2.out (p := ⟨X, s, none⟩) hXY (.int .i64 ((lf : Int) + 1)))
            clear hyq hyqf hxq hxqf xc yc xf yf
            go_wp2
            go_roundw
            case rel => exact ⟨t + 1, by omega, by go_num, by rw [Hrn.out], by rw [Hpa.out]; go_num, by rw [Hl1.out]; exact HX3.out, by rw [Hl2.out]; exact HY3.out, ((Hb69.out.trans (Hbq.out.mono (by omega))).setCell hY6 _).setCell hX6 _⟩
            case measure => simp [intOf]; omega
        | none =>
          obtain ⟨hkR, hkd⟩ : u.fm ∉ R ∧ u.fm ∉ D s := by
            have h1 := Hf.out
            rw [← h1] at hfu
            obtain ⟨h2, h3⟩ := mapF_none seed R u.fm _ hfu
            exact ⟨h2, by rw [HD.out]; exact h3 s (by have := Hm.out; omega)⟩
          have Hpa : Hid ((picks f (farms (uns (l.take (t + 1))))).length = pa) := Lib.hid (by rw [Hst.out, picks_skip hfu, HPA.out])
          have Hrn : Hid (((farms (uns (l.take (t + 1)))).filter fun x => decide (x ∈ R)).length = ((farms (uns (l.take t))).filter fun x => decide (x ∈ R)).length) := Lib.hid (by rw [Hst.out, rand_skip hkR])
          have Hl1 := Lib.hid (Hlset.out hkR)
          have Hl2 := Lib.hid (Hcskip.out (.inr hkd))
          have hsq : s < q.ss.length := by have := Hm.out; omega
          have Hs1000 : Hid (¬ q.ss[s] = 1000) := Lib.hid (fun h => by
            have := all_drawn Hok.out seed R Hmem.out hkR (by rw [Hs.out]; exact hsq) (by simp only [Hs.out]; exact h)
            rw [Hs.out, ← HD.out] at this
            exact hkd this)
          have Hmi := Lib.hid (Hmiss.out hfu)
          obtain ⟨sb, soff, hse, _, sc⟩ := (Ho6.out.at.below Hb69.out).s3.at s hsq
          have hs1000 := Hs1000.out
          generalize q.ss[s] = sh at *
          rw [hse] at P2
          clear hse
          generalize ((farms (uns (l.take t))).filter fun x => decide (x ∈ R)).length = rc at *
          generalize (restP q (uns (l.take t)) R s).length = lf at *
          clear Hlset Hlskip Hcskip Hcset Hhit Hmiss hfu
          have HX3 := Lib.hid (fun (k : Nat) => own_setN (ownsRow_below HX9.out (below_drewN (Below.refl w9.heap.size w9) k)) s (.int .i64 ((lf : Int) + 1)))
          have HY3 := Lib.hid (fun (k : Nat) => own_setTop (ownsRow_below HY9.out (below_drewN (Below.refl w9.heap.size w9) k)) (p := ⟨X, s, none⟩) hXY (.int .i64 ((lf : Int) + 1)))
          by_cases hpn : pa < n1
          · have hpl1 : pa < k1.length := by have := Hn1.out; omega
            obtain ⟨kb, koff, rfl, hkb, kc0, kc1⟩ := HSk9.out.at pa hpl1
            have hne := Hmi.out k1[pa] (by simp [hpl1])
            generalize k1[pa].1 = kx at *
            clear hpl1 kc1
            have hned : (kx == u.fm) = false := by simpa using hne
            have hnedd : decide (kx = u.fm) = false := decide_eq_false hne
            have hpnI : (pa : Int) < (n1 : Int) := by omega
            have hpnd : decide ((pa : Int) < (n1 : Int)) = true := decide_eq_true hpnI
            have hpnN : decide (pa < n1) = true := decide_eq_true hpn
            go_wp2_with fail
            go_quiet (fail)
            go_wp2
            go_roundw
            case rel => exact ⟨t + 1, by omega, by go_num, by rw [Hrn.out], by rw [Hpa.out], by rw [Hl1.out]; exact HX3.out _, by rw [Hl2.out]; exact HY3.out _, (below_drewN Hb69.out _).setCell hX6 _⟩
            case measure => simp [intOf]; omega
          · have hpnI : ¬ (pa : Int) < (n1 : Int) := by omega
            have hpnd : decide ((pa : Int) < (n1 : Int)) = false := decide_eq_false hpnI
            have hpnN : decide (pa < n1) = false := decide_eq_false hpn
            go_wp2_with fail
            go_quiet (fail)
            go_wp2
            go_roundw
            case rel => exact ⟨t + 1, by omega, by go_num, by rw [Hrn.out], by rw [Hpa.out], by rw [Hl1.out]; exact HX3.out _, by rw [Hl2.out]; exact HY3.out _, (below_drewN Hb69.out _).setCell hX6 _⟩
            case measure => simp [intOf]; omega
      · have htN' : ¬ (t : Int) < (N : Int) := by omega
        obtain rfl : t = N := by omega
        obtain ⟨w10, hw10⟩ : ∃ w10 : World, w10 = wr := ⟨_, rfl⟩
        subst hw10
        have Htake : Hid (l.take t = l) := Lib.hid (List.take_of_length_le (by have := HN.out; omega))
        have Hpa : Hid ((picks f (farms (uns (l.take t)))).length = n1) := Lib.hid (by rw [Htake.out, Hk1.out]; exact Hn1.out)
        rw [Hpa.out]
        have Hrc2 : Hid (((((farms (uns (l.take t))).filter fun x => decide (x ∈ R)).length : Int)) * 1000 ≥ q.ra * (t : Int)) := Lib.hid (by rw [Htake.out]; exact Hor.out)
        have Hrc60 : Hid (((farms (uns (l.take t))).filter fun x => decide (x ∈ R)).length ≤ 60) := Lib.hid (by
          refine Nat.le_trans (List.length_filter_le _ _) ?_
          rw [farms_len, uns_len, List.length_take]
          omega)
        have hrc60 := Hrc60.out
        have hrc2 := Hrc2.out
        rw [Htake.out] at HoXr HoYr
        generalize ((farms (uns (l.take t))).filter fun x => decide (x ∈ R)).length = rc at *
        have hrb := ra_bd Hck.out
        have HPw := Lib.hid ((Hbw.out.block w2.heap.size hlt6).trans HP6.out)
        have P4 := rowCell HPw.out (i := 4) rfl
        have hm0 : 0 ≤ q.ra * (t : Int) := Int.mul_nonneg hrb.1 (by omega)
        have hm1 : q.ra * (t : Int) ≤ 1000 * 60 := Int.mul_le_mul hrb.2 (by omega) (by omega) (by omega)
        have hw1 : IntKind.i64.wrap ((rc : Int) * 1000) = (rc : Int) * 1000 := IntWalk.i64_in _ (by omega)
        have hw2 : IntKind.i64.wrap (q.ra * (t : Int)) = q.ra * (t : Int) := IntWalk.i64_in _ (by omega)
        have hnl : ¬ (rc : Int) * 1000 < q.ra * (t : Int) := by omega
        have hnld : decide ((rc : Int) * 1000 < q.ra * (t : Int)) = false := decide_eq_false hnl
        go_upto_region 29 with fail
        clear P4 hm0 hm1 hw1 hw2 hnl hnld hrc2
        go_wp2_with fail
        go_loopw [17, 134] (fun _ i wr => ∃ s : Nat, s ≤ m ∧ i = .int .i64 (s : Int) ∧ ∃ z, wr = w10.drewN z) (fun _ i _ => m - (intOf i).toNat)
        case atStart => exact ⟨0, Nat.zero_le _, rfl, 0, rfl⟩
        case round =>
          obtain ⟨s, hs, rfl, z, rfl⟩ := hrel
          by_cases hsm : s < m
          · have hsm' : (s : Int) < (m : Int) := by omega
            have hsq : s < q.ss.length := by have := Hm.out; omega
            obtain ⟨ho1, ho2⟩ := once_str Hok.out seed R hsq
            have hsb := ss_bd Hck.out hsq
            have Hlf60 : Hid ((restP q (uns l) R s).length ≤ 60) := Lib.hid (by
              have := rest_len (q := q) (l := uns l) (R := R) (s := s)
              rw [uns_len, HN.out] at this
              omega)
            have Hch60 : Hid (((restP q (uns l) R s).filter fun x => decide (x ∈ D s)).length ≤ 60) := Lib.hid (Nat.le_trans (List.length_filter_le _ _) Hlf60.out)
            have hxt := own_top HoXr.out (by omega)
            have hyt := own_top HoYr.out (by omega)
            have xc : w10.cell? ⟨X, s, none⟩ = some (.int .i64 ((restP q (uns l) R s).length : Int)) := hxt.2.1 s _ (by rw [List.getElem?_map, lensP_at q R m (uns l) hsm]; rfl)
            have yc : w10.cell? ⟨Y, s, none⟩ = some (.int .i64 (((restP q (uns l) R s).filter fun x => decide (x ∈ D s)).length : Int)) := hyt.2.1 s _ (by rw [List.getElem?_map, chP_at q R D m (uns l) hsm]; rfl)
            obtain ⟨sb, soff, hse, _, sc⟩ := (Ho6.out.at.below Hbw.out).s3.at s hsq
            have P2 : w10.cell? ⟨w2.heap.size, 2, none⟩ = some (.slice (some ⟨sb, soff, none⟩) m p.c3) := by
              have := rowCell HPw.out (i := 2) rfl
              rw [Hm.out, hse] at this
              exact this
            have P3 : w10.cell? ⟨w2.heap.size, 3, none⟩ = some (.int .i64 q.le) := rowCell HPw.out (i := 3) rfl
            rw [← HD.out] at ho1 ho2
            clear hxt hyt hse
            have hlf60 := Hlf60.out
            have hch60 := Hch60.out
            generalize ((restP q (uns l) R s).filter fun x => decide (x ∈ D s)).length = ch at *
            generalize (restP q (uns l) R s).length = lf at *
            generalize q.ss[s] = sh at *
            clear hsq
            have hm0 : 0 ≤ sh * (lf : Int) := Int.mul_nonneg hsb.1 (by omega)
            have hm1 : sh * (lf : Int) ≤ 1000 * 60 := Int.mul_le_mul hsb.2 (by omega) (by omega) (by omega)
            have hw1 : IntKind.i64.wrap ((ch : Int) * 1000) = (ch : Int) * 1000 := IntWalk.i64_in _ (by omega)
            have hw2 : IntKind.i64.wrap (sh * (lf : Int)) = sh * (lf : Int) := IntWalk.i64_in _ (by omega)
            have hn0 : ¬ (ch : Int) < min (lf : Int) q.le := by omega
            have hn0d : decide ((ch : Int) < min (lf : Int) q.le) = false := decide_eq_false hn0
            have hn2 : ¬ (ch : Int) * 1000 < sh * (lf : Int) := by omega
            have hn2d : decide ((ch : Int) * 1000 < sh * (lf : Int)) = false := decide_eq_false hn2
            by_cases h5 : ch < lf
            · have h5d : decide (ch < lf) = true := decide_eq_true h5
              have h5i : (ch : Int) < (lf : Int) := by omega
              have h5id : decide ((ch : Int) < (lf : Int)) = true := decide_eq_true h5i
              have h6 : ¬ (ch : Int) < q.le := by omega
              have h6d : decide ((ch : Int) < q.le) = false := decide_eq_false h6
              go_wp2_with fail
              go_quiet (fail)
              go_wp2
              go_roundw
              case rel => exact ⟨s + 1, by omega, by go_num, _, rfl⟩
              case measure => simp [intOf]; omega
            · have h5d : decide (ch < lf) = false := decide_eq_false h5
              have h5i : ¬ (ch : Int) < (lf : Int) := by omega
              have h5id : decide ((ch : Int) < (lf : Int)) = false := decide_eq_false h5i
              go_wp2_with fail
              go_quiet (fail)
              go_wp2
              go_roundw
              case rel => exact ⟨s + 1, by omega, by go_num, _, rfl⟩
              case measure => simp [intOf]; omega
          · have hsm' : ¬ (s : Int) < (m : Int) := by omega
            go_wp2_with fail
            refine (awake25_any _).mono ?_
            rintro e w14 ⟨rfl, hb14⟩
            have Hb14 := Lib.hid hb14
            clear hb14
            go_wp2
            go_ret
            refine ⟨rfl, ?_⟩
            have h1 : Below w5.heap.size w5 w14 := ((Hb6.out.trans (Hbw.out.mono hs6)).trans ((below_drewN (Below.refl w10.heap.size w10) z).mono (by omega))).trans (Hb14.out.mono (by show w5.heap.size ≤ w10.heap.size; omega))
            exact (below_only Hb1.out Hg5.out hwg hs1).trans (h1.mono (by omega))
end Go.Proofs.Ytjmbdfoegnfpnaa
