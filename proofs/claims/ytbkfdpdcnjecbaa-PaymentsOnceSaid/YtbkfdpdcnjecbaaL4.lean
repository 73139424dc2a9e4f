/- PaymentsOnce: plain laws and the walk. -/
import Derived.Test.YtbkfdpdcnjecbaaTB
import Derived.Test.YtbkfdpdcnjecbaaTt
import Derived.Deep.DeepMust
namespace Go.Proofs.Ytbkfdpdcnjecbaa
open Go.RowKit
set_option linter.unusedVariables false

theorem grow_mem : ∀ {l : List Ord4} {n : Int}, Grow n l → ∀ i (h : i < l.length), rightB l[i] = true ∧ n < l[i].n
  | [], _, _, i, h => absurd h (by simp)
  | o :: r, n, hg, 0, h => ⟨hg.1, hg.2.1⟩
  | o :: r, n, hg, i + 1, h => by
    have := grow_mem hg.2.2 i (by simpa using h)
    have h2 := hg.2.1
    exact ⟨this.1, by have := this.2; simp only [List.getElem_cons_succ]; omega⟩
theorem grow_lt : ∀ {l : List Ord4} {n : Int}, Grow n l → ∀ i j (hij : i < j) (h : j < l.length), l[i].n < l[j].n
  | [], _, _, i, j, _, h => absurd h (by simp)
  | o :: r, n, hg, 0, j + 1, hij, h => (grow_mem hg.2.2 j (by simpa using h)).2
  | o :: r, n, hg, i + 1, j + 1, hij, h => grow_lt hg.2.2 i j (by omega) (by simpa using h)
theorem lastN_take {l : List Ord4} (b : Nat) (h : b < l.length) : lastN (l.take (b + 1)) = l[b].n := by rw [List.take_succ_eq_append_getElem h, lastN_snoc]
/-- An order that is there is refused. -/
theorem once_old {l : List Ord4} (hg : Grow 0 l) (hl : l.length ≤ 5) (i b : Nat) (hi : i < b) (hb : b ≤ l.length) (xs us : List Int) (h : xs ++ us = recs (l.take b)) : writeB xs us (l[i]'(by omega)) = (us, 71) := by
  obtain ⟨b, rfl⟩ : ∃ j, b = j + 1 := ⟨b - 1, by omega⟩
  unfold writeB
  rw [h, ordsB_all _ (hg.take _), if_neg (by simp), if_neg (by rw [(grow_mem hg i (by omega)).1]; decide), if_pos]
  show _ ≤ lastN (l.take (b + 1))
  rw [lastN_take b (by omega)]
  rcases Nat.lt_or_ge i b with h1 | h1
  · have := grow_lt hg i b h1 (by omega); omega
  · obtain rfl : i = b := by omega
    omega
/-- One that is not can be written. -/
theorem once_new {l : List Ord4} (hg : Grow 0 l) (hl : l.length ≤ 5) (i : Nat) (hi : i < l.length) (xs us : List Int) (h : xs ++ us = recs (l.take i)) : writeB xs us l[i] = (us ++ recB l[i], 0) ∧ xs ++ (us ++ recB l[i]) = recs (l.take (i + 1)) := by
  refine ⟨?_, by rw [← List.append_assoc, h, List.take_succ_eq_append_getElem hi, recs_app, recs_one]⟩
  unfold writeB
  rw [h, ordsB_all _ (hg.take _), if_neg (by simp), if_neg (by rw [(grow_mem hg i hi).1]; decide), if_neg, if_neg]
  · simp; omega
  · show ¬ _ ≤ lastN (l.take i)
    rcases i with _ | i
    · have := (grow_mem hg 0 hi).2
      simp only [List.take_zero]
      show ¬ _ ≤ (0 : Int)
      omega
    · rw [lastN_take i (by omega)]
      have := grow_lt hg i (i + 1) (by omega) hi
      omega

set_option maxHeartbeats 4000000 in
set_option maxRecDepth 100000 in
theorem onceLaw (A : Option Addr) (n c : Nat) (zs : List Int) (k : Int) (w : World) (hn : zs.length = n) (hc : n ≤ c) (hm : c ≤ maxLen) (hw : ∀ z ∈ zs, (Lit.int .i64 z).wf = true) (hA : Lies w A n (zs.map (.int .i64))) (hk : 0 ≤ k ∧ k ≤ 65535) :
    Calls Try.prog 5 #[.slice A n c, .int .u16 k] w fun e w' => e = .returned (.bool true) ∧ Below w.heap.size w w' := by
  have HN := Lib.hid (new_any A n c zs w hn hc hm hw hA)
  clear hn hw hA
  go_enter Try.func5, Try.ntmps5
  go_wp2_with fail
  refine HN.out.mono ?_
  rintro e w0 ⟨g, rfl, hg, ht, hb0⟩
  generalize zs.take 400 = r at *
  go_wp2_with fail
  refine (tape_any g r _ ht).mono ?_
  rintro e w1 ⟨A1, n1, c1, B1, m1, d1, v1, rfl, hA1, hB1, hown1, ht1, hg1, hfA1, hfB1⟩
  obtain ⟨hfine, hcnt⟩ := mk_fine r
  generalize mkTape r = t at *
  have hb1 := below_only hb0 hg1 hg hb0.size
  obtain ⟨L, lc, rfl, hL, hLc⟩ := own_slice hown1
  have Hb1 := Lib.hid hb1
  have Hfine := Lib.hid hfine
  have HA1 := Lib.hid (hA1.alloc (.cells #[.slice A1 n1 c1, .slice B1 m1 d1] 28))
  have HB1 := Lib.hid (hB1.alloc (.cells #[.slice A1 n1 c1, .slice B1 m1 d1] 28))
  have HL1 := Lib.hid (hL.alloc (.cells #[.slice A1 n1 c1, .slice B1 m1 d1] 28))
  have hlen : n1 + m1 ≤ 200 := by
    have h1 := congrArg List.length hfine.bytes
    rw [List.length_append, recs_len, hA1.len, hB1.len] at h1
    omega
  clear hfine hA1 hB1 hown1 ht ht1 hg1 hfA1 hfB1 hb0 hb1 hL
  have hkq1 : 0 ≤ k % 200 ∧ k % 200 ≤ 199 := by omega
  have Hcr := Lib.hid (crash_fine Hfine.out (keepN (k % 200) m1))
  go_wp2_with fail
  refine (crashP_any A1 B1 n1 c1 m1 d1 t.s t.u (k % 200) _ (by omega) (by omega) HA1.out HB1.out).mono ?_
  rintro e w5 ⟨A5, n5, c5, B5, m5, d5, rfl, hA5, hB5, hb5, _⟩
  rw [Hcr.out] at hA5
  obtain ⟨J, hJ⟩ : ∃ J, t.s.length + keepN (k % 200) m1 = J := ⟨_, rfl⟩
  rw [hJ] at hA5
  have hn5 : n5 ≤ 140 ∧ m5 = 0 := by
    have h1 := hA5.len
    have h2 := hB5.len
    rw [List.length_take, recs_len] at h1
    simp at h2
    omega
  obtain ⟨hn5a, rfl⟩ := hn5
  have HA5 := Lib.hid hA5
  have HB5 := Lib.hid hB5
  have Hb5 := Lib.hid hb5
  have hs5 := hb5.size
  clear hA5 hB5 hb5 hJ Hcr
  go_wp2_with fail
  refine (repairP_any A5 B5 n5 c5 0 d5 ((recs t.os).take J) [] _ (by omega) HA5.out HB5.out).mono ?_
  rintro e w6 ⟨A6, n6, c6, B6, m6, d6, rfl, hA6, hB6, hb6, _⟩
  rw [List.append_nil, fixB_take t.os J Hfine.out.grow] at hA6
  have hbl : (t.os.take (J / 28)).length ≤ t.os.length := by rw [List.length_take]; omega
  have hbe : t.os.take (J / 28) = t.os.take (t.os.take (J / 28)).length := by rw [List.length_take, List.take_eq_take_iff]; omega
  generalize hbb : (t.os.take (J / 28)).length = b at *
  rw [hbe] at hA6 hbb
  clear hbe
  have hn6 : n6 = 28 * b ∧ m6 = 0 := by
    have h1 := hA6.len
    have h2 := hB6.len
    rw [recs_len, hbb] at h1
    simp at h2
    omega
  obtain ⟨hn6a, rfl⟩ := hn6
  have Hn6 := Lib.hid hn6a
  have Hbb := Lib.hid hbb
  have HL := Lib.hid (HL1.out.below (Hb5.out.trans (hb6.mono hs5)))
  have HA6 := Lib.hid hA6
  have HB6 := Lib.hid hB6
  have Hw6 := Lib.hid (show Below w.heap.size w w6 from by
    have hb1 := Hb1.out
    have hs1 := hb1.size
    have hb5 := Hb5.out
    have hz := hb5.size
    simp at hz
    exact ((hb1.alloc hs1 _).trans (hb5.mono (by simp; omega))).trans (hb6.mono (by omega)))
  clear hn6a hbb hA6 hB6 hb6 Hb5 HA5 HB5 hs5 hn5a HA1 HB1 HL1 Hb1 hkq1
  have HAa := Lib.hid (HA6.out.alloc (.cells #[.slice A6 n6 c6, .slice B6 0 d6] 28))
  have HBa := Lib.hid (HB6.out.alloc (.cells #[.slice A6 n6 c6, .slice B6 0 d6] 28))
  have Hya := Lib.hid (TB.new w6 A6 n6 c6 B6 0 d6)
  go_wp2_with fail
  refine (ordersP_any A6 B6 n6 c6 0 d6 (recs (t.os.take b)) [] _ (by have := Hn6.out; omega) HAa.out HBa.out).mono ?_
  rintro e w7 ⟨v7, rfl, hown7, hb7⟩
  rw [List.append_nil, ordsB_all _ (Hfine.out.grow.take b)] at hown7 ⊢
  simp only [Hbb.out] at hown7
  obtain ⟨G, gc, rfl, _, _⟩ := own_slice hown7
  have Hy7 := Lib.hid (Hya.out.below hb7)
  have HA7 := Lib.hid (HAa.out.below hb7)
  have HB7 := Lib.hid (HBa.out.below hb7)
  have Hb67 : Hid (Below w6.heap.size w6 w7) := Lib.hid (((Below.refl w6.heap.size w6).alloc (Nat.le_refl _) _).trans (hb7.mono (by simp)))
  clear hown7 hb7 HAa HBa Hya
  have hbl2 : (b : Int) ≤ (t.os.length : Int) := by omega
  have hbl3 : ¬ t.os.length < b := by omega
  go_upto_region 7 with fail
  go_wp2
  go_loopw [49] (fun k' wr => ∃ (i : Nat) (A : Option Addr) (n c : Nat) (B : Option Addr) (m d : Nat) (xs us : List Int), k' = .int .i64 (i : Int) ∧ i ≤ t.os.length ∧ xs ++ us = recs (t.os.take (max i b)) ∧ TB wr w6.heap.size A n c B m d ∧ Sl8 wr A n c xs ∧ Sl8 wr B m d us ∧ Below w6.heap.size w6 wr) (fun k' _ => t.os.length - (intOf k').toNat)
  case atStart =>
    exact ⟨0, A6, n6, c6, B6, 0, d6, recs (t.os.take b), [], rfl, Nat.zero_le _, by rw [List.append_nil, Nat.zero_max], Hy7.out, HA7.out, HB7.out, Hb67.out⟩
  case round =>
    obtain ⟨i, C, n, c, D, m, d, xs, us, rfl, hil, heq, hy, hC, hD, hb⟩ := hrel
    have hbw : Below w6.heap.size w6 wr := hb
    have hlt := hy.lt
    obtain ⟨y0, y1, _, _⟩ := hy.facts
    have Heq := Lib.hid heq
    have Hy := Lib.hid hy
    have HC := Lib.hid hC
    have HD := Lib.hid hD
    have Hb := Lib.hid hb
    have hns : n ≤ 100000 ∧ m ≤ 90000 := by
      have h1 := congrArg List.length heq
      rw [List.length_append, recs_len, List.length_take, hC.len, hD.len] at h1
      omega
    clear heq hy hC hD hb hbw
    by_cases hi : i < t.os.length
    · obtain ⟨bL, off, rfl, hbL, o0, o1, o2, o3⟩ := lies_ord (HL.out.below Hb.out) i hi hi
      have hii : (i : Int) < (t.os.length : Int) := by omega
      by_cases hib : i < b
      · have Hwr := Lib.hid (once_old Hfine.out.grow hcnt i b hib hbl xs us (by rw [Heq.out, Nat.max_eq_right (by omega)]))
        generalize t.os[i] = o at *
        have hib2 : (i : Int) < (b : Int) := by omega
        go_wp2_with fail
        refine (writeP_any C D n c m d xs us o _ hns (HC.out.alloc _) (HD.out.alloc _)).mono ?_
        rintro e wc ⟨A', n', c', B', m', d', rfl, hA', hB', hbc, _⟩
        rw [Hwr.out] at hB' ⊢
        have hbc2 : Below wr.heap.size wr wc := ((Below.refl wr.heap.size wr).alloc (Nat.le_refl _) _).trans (hbc.mono (by simp))
        have hszc := hbc2.size
        have Hyc := Lib.hid (Hy.out.below hbc2)
        obtain ⟨y0c, y1c, _, _⟩ := Hyc.out.facts
        have hltc := Hyc.out.lt
        have HCc := Lib.hid (HC.out.below hbc2)
        have HDc := Lib.hid (HD.out.below hbc2)
        have Hbc := Lib.hid (show Below w6.heap.size w6 wc from Hb.out.trans (hbc2.mono (by omega)))
        have HA' := Lib.hid hA'
        have HB' := Lib.hid hB'
        clear hA' hB' hbc hbc2 o0 o1 o2 o3 y0 y1
        go_wp2_with fail
        refine (same_any A' B' C D n' c' m' d' n c m d xs us xs us _ (HA'.out.alloc _) (HB'.out.alloc _) (HCc.out.alloc _) (HDc.out.alloc _)).mono ?_
        rintro e wd ⟨rfl, hbd⟩
        rw [decide_eq_true rfl, decide_eq_true rfl, Bool.and_self]
        have hbd2 : Below wc.heap.size wc wd := ((Below.refl wc.heap.size wc).alloc (Nat.le_refl _) _).trans (hbd.mono (by simp))
        have Hbd := Lib.hid hbd2
        clear hbd hbd2
        go_wp2
        go_roundw
        case rel =>
          have h1 := Hbd.out
          exact ⟨i + 1, C, n, c, D, m, d, xs, us, by go_num, by omega, by rw [Heq.out, Nat.max_eq_right (by omega), Nat.max_eq_right (by omega)], Hyc.out.below h1, HCc.out.below h1, HDc.out.below h1, Hbc.out.trans (h1.mono (by omega))⟩
        case measure => simp [intOf]; omega
      · obtain ⟨hw1, hw2⟩ := once_new Hfine.out.grow hcnt i hi xs us (by rw [Heq.out, Nat.max_eq_left (by omega)])
        have Hwr := Lib.hid hw1
        have Hnx := Lib.hid hw2
        clear hw1 hw2
        generalize t.os[i] = o at *
        have hib2 : ¬ (i : Int) < (b : Int) := by omega
        go_wp2_with fail
        refine (writeP_any C D n c m d xs us o _ hns (HC.out.alloc _) (HD.out.alloc _)).mono ?_
        rintro e wc ⟨A', n', c', B', m', d', rfl, hA', hB', hbc, _⟩
        rw [Hwr.out] at hB' ⊢
        have hbc2 : Below wr.heap.size wr wc := ((Below.refl wr.heap.size wr).alloc (Nat.le_refl _) _).trans (hbc.mono (by simp))
        have hszc := hbc2.size
        have Hyc := Lib.hid (Hy.out.below hbc2)
        obtain ⟨y0c, y1c, f0c, f1c⟩ := Hyc.out.facts
        have hltc := Hyc.out.lt
        have Hbc := Lib.hid (show Below w6.heap.size w6 wc from Hb.out.trans (hbc2.mono (by omega)))
        have HA' := Lib.hid hA'
        have HB' := Lib.hid hB'
        clear hA' hB' hbc hbc2 o0 o1 o2 o3 y0 y1
        go_wp2
        go_roundw
        case rel =>
          have hp := Hbc.out
          have hps := hp.size
          exact ⟨i + 1, A', n', c', B', m', d', xs, us ++ recB o, by go_num, by omega, by rw [Hnx.out, Nat.max_eq_left (by omega)], Hyc.out.set_.alloc _, (HA'.out.tb Hyc.out _ _).alloc _, (HB'.out.tb Hyc.out _ _).alloc _, (by repeat' (first | with_reducible exact Below.refl _ _ | with_reducible assumption | with_reducible refine below_drewN ?_ _ | with_reducible refine Below.drew ?_ | with_reducible refine Below.alloc ?_ ?_ _ | with_reducible refine Below.setCell ?_ ?_ _ | with_reducible refine Below.trans ?_ (Below.mono (by with_reducible assumption) ?_) | with_reducible refine below_only ?_ (by with_reducible assumption) ?_ ?_ | (simp; done) | (simp; omega) | omega))⟩
        case measure => simp [intOf]; omega
    · obtain rfl : i = t.os.length := by omega
      have hxs : xs ++ us = recs t.os := by rw [Heq.out, Nat.max_eq_left hbl, List.take_of_length_le (Nat.le_refl _)]
      have Hxs := Lib.hid hxs
      clear hxs
      go_wp2_with fail
      refine (ordersP_any C D n c m d xs us _ (by omega) HC.out HD.out).mono ?_
      rintro e w8 ⟨v8, rfl, hown8, hb8⟩
      rw [Hxs.out, ordsB_all _ Hfine.out.grow] at hown8 ⊢
      obtain ⟨E, ec, rfl, hE, _⟩ := own_slice hown8
      have HE := Lib.hid hE
      have HL8 := Lib.hid (HL.out.below (Hb.out.trans (hb8.mono (by omega))))
      have Hb8 := Lib.hid (show Below w6.heap.size w6 w8 from Hb.out.trans (hb8.mono (by omega)))
      clear hE hown8 hb8 y0 y1
      go_upto_region 20 with fail
      go_wp2
      go_loopw [17, 83] (fun s i wr => ∃ k : Nat, k ≤ t.os.length ∧ i = .int .i64 (k : Int) ∧ s = .int .i64 (totalB (t.os.take k) 3) ∧ Below w8.heap.size w8 wr) (fun _ i _ => t.os.length - (intOf i).toNat)
      case atStart => exact ⟨0, Nat.zero_le _, rfl, rfl, Below.refl _ _⟩
      case round =>
        obtain ⟨j, hj, rfl, rfl, hbw⟩ := hrel
        have hsz := hbw.size
        by_cases hjn : j < t.os.length
        · obtain ⟨bL, off, rfl, hbl', o0, o1, o2, o3⟩ := lies_ord (HL8.out.below hbw) j hjn hjn
          have Hs : Hid (totalB (t.os.take (j + 1)) 3 = if t.os[j].f = 3 then wrap64 (totalB (t.os.take j) 3 + t.os[j].a) else totalB (t.os.take j) 3) := by
            show totalB (t.os.take (j + 1)) 3 = _
            rw [List.take_succ_eq_append_getElem hjn, totalB_snoc]
          generalize t.os[j] = o at *
          generalize totalB (t.os.take j) 3 = s at *
          go_wp2
          all_goals
            go_roundw
            case rel => exact ⟨j + 1, by omega, by go_num, by rw [Hs.out]; first | rw [if_pos (eq_of_beq (by assumption))] | rw [if_neg (ne_of_beq_false (by assumption))], (by repeat' (first | with_reducible exact Below.refl _ _ | with_reducible assumption | with_reducible refine below_drewN ?_ _ | with_reducible refine Below.drew ?_ | with_reducible refine Below.alloc ?_ ?_ _ | with_reducible refine Below.setCell ?_ ?_ _ | with_reducible refine Below.trans ?_ (Below.mono (by with_reducible assumption) ?_) | with_reducible refine below_only ?_ (by with_reducible assumption) ?_ ?_ | (simp; done) | (simp; omega) | omega))⟩
            case measure => simp [intOf]; omega
        · have e1 : t.os.take j = t.os := List.take_of_length_le (by omega)
          rw [e1]
          have Hbw := Lib.hid hbw
          clear hbw e1
          go_wp2_with (first
            | (go_at_call 17; refine (lists_any _ _ _ _ _ _ t.os t.os _ rfl rfl (by omega) (by omega) (HE.out.below Hbw.out) (HL8.out.below Hbw.out)).mono ?_; rintro e wx ⟨rfl, hbx⟩; rw [decide_eq_true rfl])
            | (go_at_call 22; refine (totalP_any _ _ _ t.os 3 _ rfl (by omega) ((HE.out.below Hbw.out).below hbx)).mono ?_; rintro e wy ⟨rfl, hby⟩)
            | (go_at_call 18; refine (awake_any _).mono ?_; rintro e wz ⟨rfl, hbz⟩)
            | fail)
          all_goals go_ret
          all_goals exact ⟨rfl, Hw6.out.trans ((Hb8.out.trans ((Hbw.out.trans ((hbx.trans ((hby.trans (hbz.mono hby.size)).mono hbx.size)).mono Hbw.out.size)).mono Hb8.out.size)).mono Hw6.out.size)⟩
end Go.Proofs.Ytbkfdpdcnjecbaa
