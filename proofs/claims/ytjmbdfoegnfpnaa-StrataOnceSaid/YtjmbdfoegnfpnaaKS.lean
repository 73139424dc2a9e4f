/- The walk of StrataScores. -/
import Derived.Test.YtjmbdfoegnfpnaaK8
namespace Go.Proofs.Ytjmbdfoegnfpnaa
open Go.RowKit
set_option linter.unusedVariables false
set_option linter.unusedSimpArgs false

theorem ascN_sorted {l : List Int} (h : ascN l l.length = true) : l.Pairwise (· < ·) := by
  rw [List.pairwise_iff_getElem]
  intro i j hi hj hij
  have := lt_chain (f := fun k => l.getD k 0) (n := l.length) (fun k hk => by
    unfold ascN at h
    rw [List.all_eq_true] at h
    have := h (k + 1) (by rw [List.mem_range]; exact hk)
    simpa using this) i j hij hj
  simpa [List.getD_eq_getElem?_getD, hi, hj] using this
theorem countP_split (l : List Int) (x : Int) : l.countP (fun y => decide (y ≤ x)) = l.countP (fun y => decide (y ≤ x - 1)) + l.count x := by
  induction l with
  | nil => rfl
  | cons a r ih =>
    rw [List.countP_cons, List.countP_cons, List.count_cons, ih]
    by_cases h1 : a ≤ x - 1
    · have h2 : a ≤ x := by omega
      have h3 : (a == x) = false := by simp; omega
      simp [h1, h2, h3]; omega
    · by_cases h2 : a ≤ x
      · have h3 : (a == x) = true := by simp; omega
        simp [h1, h2, h3]; omega
      · have h3 : (a == x) = false := by simp; omega
        simp [h1, h2, h3]
theorem strat_limit {q : Pl} (hc : checkP q = 0) {x : Int} (hx : x ∈ q.ls) : stratP q x = stratP q (x - 1) + 1 := by
  rw [stratP_ok hc, stratP_ok hc, countP_split]
  obtain ⟨-, -, -, -, -, -, -, -, ha⟩ := (planB_iff q).1 (checkP_zero hc)
  have h1 : q.ls.count x = 1 := by
    have hn := lt_nodup (ascN_sorted ha)
    have h2 : 0 < q.ls.count x := List.count_pos_iff.2 hx
    have h3 := List.nodup_iff_count.1 hn x
    omega
  rw [h1]
  omega
theorem strat_mono {q : Pl} {a b : Int} (h : a ≤ b) : stratP q a ≤ stratP q b := by
  unfold stratP
  split
  · exact Int.le_refl _
  · have : q.ls.countP (fun y => decide (y ≤ a)) ≤ q.ls.countP (fun y => decide (y ≤ b)) := List.countP_mono_left (fun y _ hy => by simp at hy ⊢; omega)
    omega
theorem strat_neg {q : Pl} (hc : checkP q = 0) : stratP q (-1) = 0 := by
  rw [stratP_ok hc]
  obtain ⟨-, -, -, hl, -⟩ := (planB_iff q).1 (checkP_zero hc)
  have : q.ls.countP (fun y => decide (y ≤ -1)) = 0 := by
    rw [List.countP_eq_zero]
    intro y hy
    have := any_out hl y hy
    simp; omega
  rw [this]; rfl
theorem strat_bd {q : Pl} (x : Int) : 0 ≤ stratP q x ∧ stratP q x ≤ 5 := by
  unfold stratP
  split
  · omega
  · rename_i h
    have hc : checkP q = 0 := by simpa using h
    obtain ⟨-, -, h1, -⟩ := (planB_iff q).1 (checkP_zero hc)
    have : q.ls.countP (fun y => decide (y ≤ x)) ≤ q.ls.length := List.countP_le_length
    omega
theorem PlOwn.gro {w w2 K W : World} {g X base : Nat} {c : Obj} {v : Value} {l r : List Int} {p : PlV} {q : Pl} (ho : PlOwn w2 base p q) (hK : Below w2.heap.size w2 K) (hX : w2.heap.size ≤ X) (h : Gro w K W g X c v l r) (hg : g < base) : PlOwn W base p q := by
  have hs := hK.size
  have hk : ∀ b, b < w2.heap.size → base ≤ b → W.heap[b]? = w2.heap[b]? := fun b hb hB => (h.kp b (by omega) (by omega) (by omega)).trans (hK.block b hb)
  exact ⟨own_keep ho.o1 hk, own_keep ho.o2 hk, own_keep ho.o3 hk⟩
theorem dot_app : ∀ (ws fs : List Int) (x : Int) (k : Nat), fs.length = k → (h : k < ws.length) → dot (ws.take (k + 1)) (fs ++ [x]) = dot (ws.take k) fs + ws[k] * x
  | w :: ws, [], x, 0, _, h => by simp [dot]
  | w :: ws, f :: fs, x, 0, hk, h => by simp at hk
  | w :: ws, f :: fs, x, k + 1, hk, h => by
    have := dot_app ws fs x k (by simpa using hk) (by simpa using h)
    simp only [List.take_succ_cons, List.cons_append, dot, List.getElem_cons_succ]
    omega
  | w :: ws, [], x, k + 1, hk, h => by simp at hk
  | [], fs, x, k, hk, h => by simp at h

set_option maxHeartbeats 8000000 in
set_option maxRecDepth 100000 in
theorem scoresLaw (A : Option Addr) (n c : Nat) (zs : List Int) (a b : Int) (w : World) (hn : zs.length = n) (hc : n ≤ c) (hm : c ≤ maxLen) (hw : ∀ z ∈ zs, (Lit.int .i64 z).wf = true) (hA : Lies w A n (zs.map (.int .i64))) (ha : 0 ≤ a ∧ a ≤ 65535) (hb : 0 ≤ b ∧ b ≤ 65535) :
    Calls Try.prog 7 #[.slice A n c, .int .u16 a, .int .u16 b] w fun e w' => e = .returned (.bool true) ∧ Below w.heap.size w w' := by
  obtain ⟨i0, hi, hz0, hz1, hz2⟩ := info_parts Try.infoIn
  have HN := Lib.hid (new_any A n c zs w hn hc hm hw hA)
  clear hn hc hm hw hA
  go_enter Try.func7, Try.ntmps7
  go_wp2_with fail
  refine HN.out.mono ?_
  rintro e w1 ⟨g, rfl, hwg, ht1, hb1⟩
  have Ht1 := Lib.hid ht1
  have Hb1 := Lib.hid hb1
  have hg1 := ht1.lt
  have hs1 := hb1.size
  clear ht1 hb1 HN
  go_wp2_with fail
  refine (plan_any g _ w1 Ht1.out).mono ?_
  rintro e w2 ⟨p, q, r2, rfl, ho2, ht2, hg2, hck, hle⟩
  have Ho2 := Lib.hid ho2
  have Ht2 := Lib.hid ht2
  have Hg2 := Lib.hid hg2
  have Hck := Lib.hid hck
  have hs2 := hg2.size
  clear ho2 ht2 hg2 hck hle Ht1
  go_upto_region 4 with fail
  -- REST
  obtain ⟨w4, hw4⟩ : ∃ w4 : World, w4 = (w2.alloc (.cells #[.slice p.a1 q.ws.length p.c1, .slice p.a2 q.ls.length p.c2, .slice p.a3 q.ss.length p.c3, .int .i64 q.le, .int .i64 q.ra] 24)).alloc (.cells #[.int .i64 1, .slice none 0 0] 27) := ⟨_, rfl⟩
  rw [← hw4]
  have Hb24 : Hid (Below w2.heap.size w2 w4) := Lib.hid (by rw [hw4]; exact (by repeat' (first | with_reducible exact Below.refl _ _ | with_reducible refine below_drewN ?_ _ | with_reducible refine Below.drew ?_ | with_reducible refine Below.alloc ?_ ?_ _ | with_reducible refine Below.setCell ?_ ?_ _ | with_reducible refine Below.trans ?_ (Below.mono (by with_reducible assumption) ?_) | (simp; done) | (simp; omega) | omega)))
  have HP4 : Hid (w4.heap[w2.heap.size]? = some (.cells #[.slice p.a1 q.ws.length p.c1, .slice p.a2 q.ls.length p.c2, .slice p.a3 q.ss.length p.c3, .int .i64 q.le, .int .i64 q.ra] 24 (0, 0))) := Lib.hid (by rw [hw4]; exact (Below.heap_alloc _ _ _ (by simp)).trans (heap_alloc_new w2 _))
  have HU4 : Hid (w4.heap[w2.heap.size + 1]? = some (.cells #[.int .i64 1, .slice none 0 0] 27 (0, 0))) := Lib.hid (by
    rw [hw4]
    have := heap_alloc_new (w2.alloc (.cells #[.slice p.a1 q.ws.length p.c1, .slice p.a2 q.ls.length p.c2, .slice p.a3 q.ss.length p.c3, .int .i64 q.le, .int .i64 q.ra] 24)) (.cells #[.int .i64 1, .slice none 0 0] 27)
    simpa using this)
  have HG4 : Hid (Gro w1 w4 w4 g (w2.heap.size + 1) (.cells #[.int .i64 1, .slice none 0 0] 27 (0, 0)) (.slice none 0 0) [] r2) := Lib.hid (Gro.start (Ht2.out.below Hb24.out (by omega)) (only_below Hg2.out Hb24.out hs2) HU4.out hg1 (by omega))
  have hlt4 : w2.heap.size < w4.heap.size := by rw [hw4]; simp; omega
  clear hw4
  have hwl : 1 ≤ q.ws.length ∧ q.ws.length ≤ 6 := ((planB_iff q).1 (checkP_zero Hck.out)).1
  obtain ⟨m, hm⟩ : ∃ m, q.ws.length = m := ⟨_, rfl⟩
  have Hm := Lib.hid hm
  obtain ⟨b1, off1, hA1, -, -⟩ := Ho2.out.at.s1.at 0 (by omega)
  have HA1 := Lib.hid hA1
  have HW : Hid (∀ W base, PlOwn W base p q → ∀ t, (h : t < q.ws.length) → W.cell? ⟨b1, off1 + t, none⟩ = some (.int .i64 q.ws[t])) := Lib.hid (fun W base hW t ht => by
    obtain ⟨b', off', hA', _, hc'⟩ := hW.at.s1.at t ht
    have := HA1.out.symm.trans hA'
    injection this with h
    injection h with e1 e2
    subst e1 e2
    exact hc')
  have HWb := Lib.hid (any_out ((planB_iff q).1 (checkP_zero Hck.out)).2.1)
  rw [hm] at hwl
  have P0 : w4.cell? ⟨w2.heap.size, 0, none⟩ = some (.slice (some ⟨b1, off1, none⟩) m p.c1) := by
    have := rowCell HP4.out (i := 0) rfl
    rw [hm, hA1] at this
    exact this
  clear hm hA1
  go_wp2_with fail
  go_loopw [10, 12, 13, 26] (fun s _ _ i wr => ∃ (t : Nat) (fs : List Int) (v : Value) (r' : List Int), i = .int .i64 (t : Int) ∧ fs.length = t ∧ t ≤ m ∧ s = .int .i64 (dot (q.ws.take t) fs) ∧ Gro w1 w4 wr g (w2.heap.size + 1) (.cells #[.int .i64 1, v] 27 (0, 0)) v fs r' ∧ ∀ x ∈ fs, 0 ≤ x ∧ x ≤ 100) (fun _ _ _ i _ => m - (intOf i).toNat)
  case atStart => exact ⟨0, [], _, _, rfl, rfl, Nat.zero_le _, rfl, HG4.out, by simp⟩
  case round =>
    obtain ⟨t, fs, v, r', rfl, hft, htm, rfl, hG, hfs⟩ := hrel
    have HG := Lib.hid hG
    have Hfs := Lib.hid hfs
    have Hft := Lib.hid hft
    have hfl : fs.length ≤ 6 := by omega
    clear hG hfs hft
    by_cases htt : t < m
    · have htt' : (t : Int) < (m : Int) := by omega
      have htl : t < q.ws.length := by have := Hm.out; omega
      have cw := HW.out wr _ (Ho2.out.gro Hb24.out (by omega) HG.out hg1) t htl
      have Hdt := Lib.hid (fun x => dot_app q.ws fs x t Hft.out htl)
      have hwb := HWb.out q.ws[t] (List.getElem_mem _)
      have hdb := dot_bd (q.ws.take t) fs (fun x hx => HWb.out x (List.mem_of_mem_take hx)) Hfs.out
      rw [List.length_take] at hdb
      have hmin : ((min t q.ws.length : Nat) : Int) ≤ 6 := by omega
      have hdb2 : 0 ≤ dot (q.ws.take t) fs ∧ dot (q.ws.take t) fs ≤ 60000 := by omega
      clear hdb hmin
      generalize q.ws[t] = y at *
      generalize dot (q.ws.take t) fs = s at *
      clear htl
      go_wp2_with fail
      refine (next_any g r' 101 _ HG.out.tp (by omega)).mono ?_
      rintro e w5 ⟨rfl, ht5, hg5⟩
      have hx := nx_bd r' 101 (by omega)
      have HG5 := Lib.hid (HG.out.tape hg5 ht5)
      generalize nx r' 101 = x at *
      clear ht5 hg5 HG
      have hm0 : 0 ≤ x * y := Int.mul_nonneg hx.1 hwb.1
      have hm1 : x * y ≤ 100 * 100 := Int.mul_le_mul (by omega) hwb.2 hwb.1 (by omega)
      have c1 : w5.cell? ⟨w2.heap.size + 1, 1, none⟩ = some v := rowCell HG5.out.blk rfl
      go_wp2_with (first
        | (at_builtin
           refine wpList_append_any _ rfl (.tmp 33) (.tmp 35) _ rfl w4.heap.size 3 i0 (.int .i64 0) 1 8 Try.underlying22 hi hz0 hz1 hz2 rfl (by omega) v fs.length (fs.map (Value.int .i64)) rfl (HG5.out.alloc _).o _ _ 1 1 [.int .i64 x] rfl ⟨rfl, fun _ => ⟨_, rfl, Nat.lt_succ_self _, fun j u hu => (by exact news_any _ _ _ j u hu)⟩⟩ (by simp [Value.oneCell']) (by simp only [maxLen]; omega) (by omega) (HG5.out.alloc _).sz ?_
           intro v6 w6 hown6 hg6 hat6
           obtain ⟨A6, e6, rfl, _, _, _⟩ := own_slice hown6
           have HG6 := Lib.hid ((HG5.out.alloc _).app hown6 hg6)
           have d6 : w6.cell? ⟨w2.heap.size + 1, 1, none⟩ = some v := rowCell HG6.out.blk rfl
           have f6 := frozen_of_row w6 (w2.heap.size + 1) 1 _ _ HG6.out.blk)
        | fail)
      go_roundw
      case rel => exact ⟨t + 1, fs ++ [x], _, _, by go_num, by rw [List.length_append, Hft.out]; rfl, by omega, by rw [Hdt.out, Int.mul_comm], HG6.out.put (setRow _ HG6.out.blk rfl), fun z hz => by
        rcases List.mem_append.1 hz with h | h
        · exact Hfs.out z h
        · rw [List.mem_singleton] at h; omega⟩
      case measure => simp [intOf]; omega
    · have htt' : ¬ (t : Int) < (m : Int) := by omega
      obtain ⟨w7, hw7⟩ : ∃ w7 : World, w7 = wr := ⟨_, rfl⟩
      subst hw7
      have Hfl : Hid (fs.length = q.ws.length) := Lib.hid (by have := Hm.out; have := Hft.out; omega)
      obtain ⟨A6, e6, rfl, _, _, _⟩ := own_slice HG.out.o
      have HU7 : Hid (Sl w7 A6 e6 (fs.map (.int .i64))) := Lib.hid (Sl.of_own HG.out.o (by simp))
      have Ho7 := Lib.hid (Ho2.out.gro Hb24.out (by omega) HG.out hg1)
      have HP7 : Hid (w7.heap[w2.heap.size]? = some (.cells #[.slice p.a1 q.ws.length p.c1, .slice p.a2 q.ls.length p.c2, .slice p.a3 q.ss.length p.c3, .int .i64 q.le, .int .i64 q.ra] 24 (0, 0))) := Lib.hid ((HG.out.kp _ hlt4 (by omega) (by omega)).trans HP4.out)
      have HX7 := Lib.hid HG.out.blk
      have hs7 := HG.out.sz
      have hX7 := HG.out.hK
      have Hgw7 := Lib.hid HG.out.gr
      have Hsc : Hid (scoreP q ⟨1, fs⟩ = dot (q.ws.take t) fs) := Lib.hid (by
        unfold scoreP
        have h1 : factB q ⟨1, fs⟩ = true := by
          unfold factB
          rw [decide_eq_true (show (⟨1, fs⟩ : Un).fs.length = q.ws.length from Hfl.out)]
          have : fs.any (outP 0 100) = false := by
            rw [List.any_eq_false]
            intro x hx
            have := Hfs.out x hx
            simp [outP]
            omega
          show (true && !fs.any (outP 0 100)) = true
          rw [this]
          rfl
        rw [if_neg, List.take_of_length_le (by have := Hm.out; omega)]
        rintro (h | h | h)
        · exact h Hck.out
        · simp [outP] at h
        · rw [h1] at h; cases h)
      generalize dot (q.ws.take t) fs = want at *
      clear HG HG4 P0 HW
      go_upto_region 12 with fail
      clear ha hb
      go_upto_region 13 with fail
      obtain ⟨lo, hlo⟩ : ∃ lo, (min (wrap64 a) (wrap64 b)).tmod 1000 = lo := ⟨_, rfl⟩
      rw [hlo]
      obtain ⟨hi', hhi⟩ : ∃ hi', (max (wrap64 a) (wrap64 b)).tmod 1000 = hi' := ⟨_, rfl⟩
      rw [hhi]
      clear hlo hhi
      go_upto_if 58 with fail
      go_cut [14, 15] (fun s14 s15 wx => ∃ lo' hi2 : Int, s14 = .int .i64 lo' ∧ s15 = .int .i64 hi2 ∧ lo' ≤ hi2 ∧ wx = w7)
      case first =>
        by_cases hlh : hi' < lo
        · go_wp2
          go_meet
          case rel => exact ⟨hi', lo, rfl, rfl, by omega, rfl⟩
        · go_wp2
          go_meet
          case rel => exact ⟨lo, hi', rfl, rfl, by omega, rfl⟩
      case rest =>
        obtain ⟨x14, x15, rfl, rfl, hle, rfl⟩ := hcut
        have Hlh := Lib.hid (strat_mono (q := q) hle)
        have Hng := Lib.hid (strat_neg Hck.out)
        clear hle
        have HSt : Hid (∀ x W, Below wc.heap.size wc W → Calls Try.prog 18 #[.agg #[.slice p.a1 q.ws.length p.c1, .slice p.a2 q.ls.length p.c2, .slice p.a3 q.ss.length p.c3, .int .i64 q.le, .int .i64 q.ra], .int .i64 x] W fun e w' => e = .returned (.int .i64 (stratP q x)) ∧ Below W.heap.size W w') := Lib.hid (fun x W hW => stratS_any p q x W (Ho7.out.at.below hW))
        obtain ⟨ml, hml⟩ : ∃ ml, q.ls.length = ml := ⟨_, rfl⟩
        have Hml := Lib.hid hml
        have P1 : wc.cell? ⟨w2.heap.size, 1, none⟩ = some (.slice p.a2 ml p.c2) := by
          have := rowCell HP7.out (i := 1) rfl
          rw [hml] at this
          exact this
        have hml6 : ml ≤ 5 := by
          obtain ⟨-, -, h, -⟩ := (planB_iff q).1 (checkP_zero Hck.out)
          omega
        have HL7 : Hid (∀ W, Below wc.heap.size wc W → Sl W p.a2 p.c2 (q.ls.map (.int .i64))) := Lib.hid (fun W hW => Ho7.out.at.s2.below hW)
        clear hml
        obtain ⟨A2, hA2⟩ : ∃ A2, p.a2 = A2 := ⟨_, rfl⟩
        have HA2 := Lib.hid hA2
        rw [hA2] at P1 HL7
        clear hA2
        go_upto_region 15 with fail
        go_wp2_with fail
        go_loopw [17, 64] (fun _ i wr => ∃ t2 : Nat, t2 ≤ ml ∧ i = .int .i64 (t2 : Int) ∧ Below wc.heap.size wc wr) (fun _ i _ => ml - (intOf i).toNat)
        case atStart => exact ⟨0, Nat.zero_le _, rfl, Below.refl _ _⟩
        case round =>
          obtain ⟨t2, ht2, rfl, hbw⟩ := hrel
          have Hbw := Lib.hid hbw
          have hsw := hbw.size
          clear hbw
          have hlw : w2.heap.size < wr.heap.size := by omega
          have hlw2 : w2.heap.size + 1 < wr.heap.size := by omega
          have HPw := Lib.hid ((Hbw.out.block w2.heap.size (by omega)).trans HP7.out)
          have p0 := rowCell HPw.out (i := 0) rfl
          have p1 := rowCell HPw.out (i := 1) rfl
          have p2 := rowCell HPw.out (i := 2) rfl
          have p3 := rowCell HPw.out (i := 3) rfl
          have p4 := rowCell HPw.out (i := 4) rfl
          by_cases htm : t2 < ml
          · have htm' : (t2 : Int) < (ml : Int) := by omega
            have htl : t2 < q.ls.length := by have := Hml.out; omega
            obtain ⟨b, off, rfl, hb, cl⟩ := (HL7.out wr Hbw.out).at t2 htl
            have Hlim := Lib.hid (strat_limit Hck.out (List.getElem_mem htl))
            have hxb := any_out ((planB_iff q).1 (checkP_zero Hck.out)).2.2.2.1 q.ls[t2] (List.getElem_mem htl)
            generalize q.ls[t2] = x at *
            clear htl
            have hwx : IntKind.i64.wrap (x - 1) = x - 1 := IntWalk.i64_in _ (by omega)
            have hy := strat_bd (q := q) (x - 1)
            have HS1 : Hid (∀ W, Below wr.heap.size wr W → Calls Try.prog 18 #[.agg #[.slice p.a1 q.ws.length p.c1, .slice p.a2 q.ls.length p.c2, .slice p.a3 q.ss.length p.c3, .int .i64 q.le, .int .i64 q.ra], .int .i64 x] W fun e w' => e = .returned (.int .i64 (stratP q (x - 1) + 1)) ∧ Below W.heap.size W w') := Lib.hid (fun W hW => by
              have := HSt.out x W (Hbw.out.trans (hW.mono hsw))
              rw [Hlim.out] at this
              exact this)
            have HS2 : Hid (∀ W, Below wr.heap.size wr W → Calls Try.prog 18 #[.agg #[.slice p.a1 q.ws.length p.c1, .slice p.a2 q.ls.length p.c2, .slice p.a3 q.ss.length p.c3, .int .i64 q.le, .int .i64 q.ra], .int .i64 (x - 1)] W fun e w' => e = .returned (.int .i64 (stratP q (x - 1))) ∧ Below W.heap.size W w') := Lib.hid (fun W hW => HSt.out (x - 1) W (Hbw.out.trans (hW.mono hsw)))
            generalize stratP q (x - 1) = y at *
            have hwy : IntKind.i64.wrap (y + 1) = y + 1 := IntWalk.i64_in _ (by omega)
            go_wp2_with fail
            refine wp_region_below (W := wr) wr.heap.size (Nat.le_refl _) (by kernel_rfl) (by kernel_rfl) ?_
            intro I _ F hFc hFb hFs
            repeat (go_big_quiet_step ((first
              | (go_at_call 18; with_reducible exact class_call hFb hFs (Nat.le_refl _) (HS1.out _ (hFb _)))
              | (go_at_call 18; with_reducible exact class_call hFb hFs (Nat.le_refl _) (HS2.out _ (hFb _))))))
            refine wpQuiet_nil ?_
            rintro _ ⟨iq, rfl⟩
            go_wp2
            go_roundw
            case rel => exact ⟨t2 + 1, by omega, by go_num, Hbw.out.trans ((hFb iq).mono hsw)⟩
            case measure => simp [intOf]; omega
          · have htm' : ¬ (t2 : Int) < (ml : Int) := by omega
            have HUw := Lib.hid ((Hbw.out.block (w2.heap.size + 1) (by omega)).trans HX7.out)
            have r0 := rowCell HUw.out (i := 0) rfl
            have r1 := rowCell HUw.out (i := 1) rfl
            have HSc : Hid (∀ W, Below wr.heap.size wr W → Calls Try.prog 20 #[.agg #[.slice p.a1 q.ws.length p.c1, .slice p.a2 q.ls.length p.c2, .slice p.a3 q.ss.length p.c3, .int .i64 q.le, .int .i64 q.ra], .agg #[.int .i64 1, .slice A6 fs.length e6]] W fun e w' => e = .returned (.int .i64 want) ∧ Below W.heap.size W w') := Lib.hid (fun W hW => by
              have hb := Hbw.out.trans (hW.mono hsw)
              have := scoS_any p q ⟨A6, e6⟩ ⟨1, fs⟩ W (Ho7.out.at.below hb) (HU7.out.below hb)
              rw [Hsc.out] at this
              exact this)
            have HS1 : Hid (∀ W, Below wr.heap.size wr W → Calls Try.prog 18 #[.agg #[.slice p.a1 q.ws.length p.c1, .slice p.a2 q.ls.length p.c2, .slice p.a3 q.ss.length p.c3, .int .i64 q.le, .int .i64 q.ra], .int .i64 x14] W fun e w' => e = .returned (.int .i64 (stratP q x14)) ∧ Below W.heap.size W w') := Lib.hid (fun W hW => HSt.out x14 W (Hbw.out.trans (hW.mono hsw)))
            have HS2 : Hid (∀ W, Below wr.heap.size wr W → Calls Try.prog 18 #[.agg #[.slice p.a1 q.ws.length p.c1, .slice p.a2 q.ls.length p.c2, .slice p.a3 q.ss.length p.c3, .int .i64 q.le, .int .i64 q.ra], .int .i64 x15] W fun e w' => e = .returned (.int .i64 (stratP q x15)) ∧ Below W.heap.size W w') := Lib.hid (fun W hW => HSt.out x15 W (Hbw.out.trans (hW.mono hsw)))
            have HS3 : Hid (∀ W, Below wr.heap.size wr W → Calls Try.prog 18 #[.agg #[.slice p.a1 q.ws.length p.c1, .slice p.a2 q.ls.length p.c2, .slice p.a3 q.ss.length p.c3, .int .i64 q.le, .int .i64 q.ra], .int .i64 (-1)] W fun e w' => e = .returned (.int .i64 0) ∧ Below W.heap.size W w') := Lib.hid (fun W hW => by
              have := HSt.out (-1) W (Hbw.out.trans (hW.mono hsw))
              rw [Hng.out] at this
              exact this)
            have hlh := Hlh.out
            generalize stratP q x14 = y14 at *
            generalize stratP q x15 = y15 at *
            have hlhd : decide (y14 ≤ y15) = true := decide_eq_true hlh
            go_wp2_with fail
            refine wp_region_below (W := wr) wr.heap.size (Nat.le_refl _) (by kernel_rfl) (by kernel_rfl) ?_
            intro I _ F hFc hFb hFs
            repeat (go_big_quiet_step ((first
              | (go_at_call 20; with_reducible exact class_call hFb hFs (Nat.le_refl _) (HSc.out _ (hFb _)))
              | (go_at_call 18; with_reducible exact class_call hFb hFs (Nat.le_refl _) (HS1.out _ (hFb _)))
              | (go_at_call 18; with_reducible exact class_call hFb hFs (Nat.le_refl _) (HS2.out _ (hFb _)))
              | (go_at_call 18; with_reducible exact class_call hFb hFs (Nat.le_refl _) (HS3.out _ (hFb _)))
              | (go_at_call 9; exact class_call hFb hFs (Nat.le_refl _) (awake25_any _)))))
            refine wpQuiet_nil ?_
            rintro _ ⟨iq, rfl⟩
            go_wp2
            go_ret
            refine ⟨rfl, ?_⟩
            have h1 : Below wc.heap.size wc (F iq) := Hbw.out.trans ((hFb iq).mono hsw)
            exact (below_only Hb1.out Hgw7.out hwg hs1).trans (h1.mono (by omega))
end Go.Proofs.Ytjmbdfoegnfpnaa
