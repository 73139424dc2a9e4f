/- PaymentsNotices: plain laws and the walk. -/
import Derived.Test.YtbkfdpdcnjecbaaTB
import Derived.Deep.DeepMust
namespace Go.Proofs.Ytbkfdpdcnjecbaa
open Go.RowKit
set_option linter.unusedVariables false

theorem recs_split (l : List Ord4) (q : Nat) (hq : q < l.length) : recs l = recs (l.take q) ++ (recB l[q] ++ recs (l.drop (q + 1))) := by
  have e : l = l.take q ++ ([l[q]] ++ l.drop (q + 1)) := by rw [List.singleton_append, ← List.drop_eq_getElem_cons hq, List.take_append_drop]
  conv => lhs; rw [e]
  rw [recs_app, recs_app, recs_one]
/-- Orders, one byte of which was changed. -/
theorem ordsB_bad (l : List Ord4) (h : Grow 0 l) (k : Nat) (y : Int) (hk : k < 28 * l.length) (hy : 0 ≤ y ∧ y ≤ 255) (hne : ∀ x, (recs l)[k]? = some x → x ≠ y) :
    (ordsB ((recs l).set k y)).1 = l.take (k / 28) ∧ (ordsB ((recs l).set k y)).2.length = 28 * l.length - 28 * (k / 28) := by
  have hq : k / 28 < l.length := by omega
  have hr := recs_len (l.take (k / 28))
  rw [List.length_take, Nat.min_eq_left (by omega)] at hr
  have e := recs_split l (k / 28) hq
  have hl := congrArg List.length e
  rw [recs_len, List.length_append, List.length_append, recB_len, hr] at hl
  rw [e] at hne ⊢
  generalize l[k / 28] = o at *
  generalize recs (l.drop (k / 28 + 1)) = R at *
  rw [List.set_append_right _ _ (by omega), hr, List.set_append_left _ _ (by rw [recB_len]; omega)]
  rw [List.getElem?_append_right (by omega), hr, List.getElem?_append_left (by rw [recB_len]; omega)] at hne
  have hb : okB ((recB o).set (k - 28 * (k / 28)) y) = false := rec_bad o _ y (by omega) hy (fun h' => hne _ (List.getElem?_eq_getElem h'))
  have ht : takes (l.take (k / 28)) ((recB o).set (k - 28 * (k / 28)) y ++ R) = false := by
    unfold takes
    rw [List.take_left' (by rw [List.length_set, recB_len]), hb]
    simp
  rw [ordsB_recs _ _ (h.take _) ht]
  refine ⟨rfl, ?_⟩
  rw [List.length_append, List.length_set, recB_len]
  omega

theorem own_set {w : World} {base : Nat} {e : TypeId} {n g cap : Nat} {xs : List Value} (h : w.ownsRow base e 1 (.slice (some ⟨g, 0, none⟩) n cap) n xs) (k : Nat) (u : Value) : (w.setCell ⟨g, k, none⟩ u).ownsRow base e 1 (.slice (some ⟨g, 0, none⟩) n cap) n (xs.set k u) := by
  obtain ⟨h1, h2⟩ := h
  refine ⟨by rw [List.length_set]; exact h1, ?_⟩
  rcases h2 with ⟨h3, _⟩ | ⟨g', cap', cur, h3, hb, hg, hn, hc, hs, ht⟩
  · cases h3
  · cases h3
    have := heap_setCell_same w g k _ _ u hg
    refine .inr ⟨g, cap, _, rfl, hb, this, hn, hc, by simpa using hs, ?_⟩
    rw [← ht]
    simp [List.take_set]
theorem Bytes.set {l : List Int} (h : Bytes l) (k : Nat) (y : Int) (hy : 0 ≤ y ∧ y ≤ 255) : Bytes (l.set k y) := fun b hb => by
  rcases List.mem_or_eq_of_mem_set hb with h1 | rfl
  · exact h b h1
  · exact hy
theorem w64_id (x : Int) (h1 : 0 ≤ x) (h2 : x ≤ 1000000) : wrap64 x = x := by unfold wrap64; omega
theorem ord_take (l : List Ord4) (q : Nat) : ∃ r, ordCells l = ordCells (l.take q) ++ r := by
  refine ⟨ordCells (l.drop q), ?_⟩
  show l.flatMap Ord4.cells = (l.take q).flatMap Ord4.cells ++ (l.drop q).flatMap Ord4.cells
  rw [← List.flatMap_append, List.take_append_drop]
theorem Lies.take_ord {w : World} {A : Option Addr} {l : List Ord4} (h : Lies w A l.length (ordCells l)) (q : Nat) (hq : q ≤ l.length) : Lies w A q (ordCells (l.take q)) := by
  rcases h with h0 | ⟨b, off, e, hlt, hcell⟩
  · exact .inl (by omega)
  · refine .inr ⟨b, off, e, hlt, fun j u hu => hcell j u ?_⟩
    obtain ⟨r, hr⟩ := ord_take l q
    rw [hr, List.getElem?_append_left]
    · exact hu
    · rcases Nat.lt_or_ge j (ordCells (l.take q)).length with h | h
      · exact h
      · rw [List.getElem?_eq_none h] at hu; cases hu

set_option maxHeartbeats 1000000 in
set_option maxRecDepth 100000 in
theorem noticesLaw (A : Option Addr) (n c : Nat) (zs : List Int) (k z : Int) (w : World) (hn : zs.length = n) (hc : n ≤ c) (hm : c ≤ maxLen) (hw : ∀ z ∈ zs, (Lit.int .i64 z).wf = true) (hA : Lies w A n (zs.map (.int .i64))) (hk : 0 ≤ k ∧ k ≤ 65535) (hz : 0 ≤ z ∧ z ≤ 255) :
    Calls Try.prog 4 #[.slice A n c, .int .u16 k, .int .u8 z] w fun e w' => e = .returned (.bool true) ∧ Below w.heap.size w w' := by
  have HN := Lib.hid (new_any A n c zs w hn hc hm hw hA)
  clear hn hw hA
  obtain ⟨i0, hi, hz0, hz1, hz2⟩ := info_parts Try.infoByte
  go_enter Try.func4, Try.ntmps4
  go_wp2_with fail
  refine HN.out.mono ?_
  rintro e w0 ⟨g, rfl, hg, ht, hb0⟩
  generalize zs.take 400 = r at *
  go_wp2_with fail
  refine (tape_any g r _ ht).mono ?_
  rintro e w1 ⟨A1, n1, c1, B1, m1, d1, v1, rfl, hA1, hB1, hown1, ht1, hg1, hfA1, hfB1⟩
  obtain ⟨hfine, hcnt⟩ := mk_fine r
  generalize mkTape r = t at *
  have hb1 := below_only hb0 hg1 hg hb0.size
  obtain ⟨L, lc, rfl, hL, hLc⟩ := own_slice hown1
  have Hb1 := Lib.hid hb1
  have Hfine := Lib.hid hfine
  have HA1 := Lib.hid (hA1.alloc (.cells #[.slice A1 n1 c1, .slice B1 m1 d1] 28))
  have HB1 := Lib.hid (hB1.alloc (.cells #[.slice A1 n1 c1, .slice B1 m1 d1] 28))
  have HL1 := Lib.hid (hL.alloc (.cells #[.slice A1 n1 c1, .slice B1 m1 d1] 28))
  have hlen : n1 + m1 ≤ 200 := by
    have h1 := congrArg List.length hfine.bytes
    rw [List.length_append, recs_len, hA1.len, hB1.len] at h1
    omega
  clear hfine hA1 hB1 hown1 ht ht1 hg1 hfA1 hfB1 hb0 hb1 hL
  go_wp2_with fail
  refine (syncP_any A1 B1 n1 c1 m1 d1 t.s t.u _ (by omega) HA1.out HB1.out).mono ?_
  rintro e w2 ⟨A2, n2, c2, B2, m2, d2, rfl, hA2, hB2, hb2, _⟩
  rw [Hfine.out.bytes] at hA2
  have Hb2 := Lib.hid hb2
  have hs2 := hb2.size
  have Hy := Lib.hid (TB.new w2 A2 n2 c2 B2 m2 d2)
  have HL := Lib.hid ((HL1.out.below hb2).alloc (.cells #[.slice A2 n2 c2, .slice B2 m2 d2] 28))
  have HA2 := Lib.hid (hA2.alloc (.cells #[.slice A2 n2 c2, .slice B2 m2 d2] 28))
  have hn2 : n2 = 28 * t.os.length ∧ m2 = 0 := by
    have h1 := hA2.len
    have h2 := hB2.len
    rw [recs_len] at h1
    simp at h2
    omega
  obtain ⟨hn2a, rfl⟩ := hn2
  have Hn2 := Lib.hid hn2a
  clear hn2a
  have Hw2 := Lib.hid (show Below w.heap.size w (w2.alloc (.cells #[.slice A2 n2 c2, .slice B2 0 d2] 28)) from by
    have hb1 := Hb1.out
    have hs1 := hb1.size
    exact ((hb1.alloc hs1 _).trans (Hb2.out.mono (by simp; omega))).alloc (by have := Hb2.out.size; simp at this; omega) _)
  clear hA2 hB2 hb2 HA1 HB1 HL1 Hb1 Hb2
  go_upto_region 4 with fail
  obtain ⟨w3, hw3⟩ : ∃ w3 : World, w3 = w2.alloc (.cells #[.slice A2 n2 c2, .slice B2 0 d2] 28) := ⟨_, rfl⟩
  rw [← hw3] at Hy HL HA2 Hw2 ⊢
  have hlt := Hy.out.lt
  clear hw3
  obtain ⟨y0, y1, _, _⟩ := Hy.out.facts
  by_cases h0 : t.os.length = 0
  · obtain rfl : n2 = 0 := by have := Hn2.out; omega
    go_wp2_with (first | (go_at_call 18; refine (awake_any _).mono ?_; rintro e w5 ⟨rfl, hb5⟩) | fail)
    all_goals go_ret
    all_goals exact ⟨rfl, Hw2.out.trans (hb5.mono Hw2.out.size)⟩
  · have hc0 : ¬ (t.os.length : Int) = 0 := by omega
    have hn0 : ¬ (n2 : Int) = 0 := by have := Hn2.out; omega
    have h28 : (28 : Int) * (t.os.length : Int) = (n2 : Int) := by have := Hn2.out; omega
    have h28w : wrap64 (28 * (t.os.length : Int)) = (n2 : Int) := by rw [h28]; unfold wrap64; have := Hn2.out; omega
    go_upto_region 9 with fail
    have Hn0 := Lib.hid hn0
    have Hh28 := Lib.hid h28
    obtain ⟨p, hp⟩ : ∃ p : Nat, k % (n2 : Int) = (p : Int) := ⟨(k % (n2 : Int)).toNat, by have := Int.emod_nonneg k hn0; omega⟩
    have hpn : p < n2 := by have := Int.emod_lt_of_pos k (show (0 : Int) < n2 by omega); omega
    rw [hp]
    clear hp hn0 h28 h28w
    have HAr : Hid (Reads w3 w3.heap.size 1 A2 n2 ((recs t.os).map (.int .u8))) := HA2.out.lies.reads (by simp [HA2.out.len])
    have hn140 : n2 ≤ 140 := by have := Hn2.out; omega
    go_upto_region 10 with (first
      | (at_builtin
         refine wpList_append_any _ rfl (.tmp 47) (.tmp 49) 26 rfl w3.heap.size 5 i0 (.int .u8 0) 1 1 Try.underlying26 hi hz0 hz1 hz2 rfl (by omega) (.slice (some ⟨w3.heap.size, 0, none⟩) 0 0) 0 [] rfl (own_zero w3 _ _ _ (Nat.le_refl _)) w3.heap.size A2 n2 c2 ((recs t.os).map (.int .u8)) rfl (HAr.out.alloc (Nat.le_refl _) _) (ints_oneCell .u8 _) (by unfold maxLen; omega) (by omega) (by simp) ?_
         intro v4 w4 hown4 hg4 hat4)
      | fail)
    simp only [Nat.zero_add, List.nil_append] at hown4
    obtain ⟨gg, cap, cur, rfl, hgg, hcur, hcap, hcm, hcs, htk⟩ := hown4.2.resolve_left (fun h => by omega)
    have Hb4 : Hid (Below w3.heap.size w3 w4) := Lib.hid (((Below.refl _ _).alloc (Nat.le_refl _) _).grown hg4 (by simp) (by intro k hk; simp [Value.ownBlock] at hk; omega))
    have hpl : p < (recs t.os).length := by rw [recs_len]; have := Hn2.out; omega
    obtain ⟨x, hx⟩ : ∃ x, (recs t.os)[p]? = some x := ⟨_, List.getElem?_eq_getElem hpl⟩
    have hxb : 0 ≤ x ∧ x ≤ 255 := recs_bytes t.os x (List.mem_of_getElem? hx)
    have hcp : w4.cell? ⟨gg, p, none⟩ = some (.int .u8 x) := by
      have h1 : cur.toList[p]? = some (.int .u8 x) := by
        have h2 : (cur.toList.take (n2 * 1))[p]? = some (.int .u8 x) := by rw [htk, List.getElem?_map, hx]; rfl
        rwa [List.getElem?_take_of_lt (by omega)] at h2
      rw [cell_of_row w4 gg p _ _ _ hcur]
      simpa using h1
    have hfp : w4.frozen? ⟨gg, p, none⟩ = false := frozen_of_row w4 gg p _ _ hcur
    have Hown4 := Lib.hid hown4
    have Hcur := Lib.hid hcur
    have Hx := Lib.hid hx
    have hglt : gg < w4.heap.size := by
      rcases Nat.lt_or_ge gg w4.heap.size with h' | h'
      · exact h'
      · rw [Array.getElem?_eq_none h'] at hcur; cases hcur
    have hs4 : w3.heap.size ≤ w4.heap.size := Hb4.out.size
    clear hown4 hcur hx htk hcs hg4 hat4
    go_upto_region 11 with fail
    obtain ⟨y, hy⟩ : ∃ y, (x + (1 + z % 255)) % 256 = y := ⟨_, rfl⟩
    rw [hy]
    have hyb : 0 ≤ y ∧ y ≤ 255 := by omega
    have hxy : x ≠ y := by omega
    obtain ⟨w5, hw5⟩ : ∃ w5 : World, w5 = w4.setCell ⟨gg, p, none⟩ (.int .u8 y) := ⟨_, rfl⟩
    rw [← hw5]
    obtain ⟨ho1, ho2⟩ := ordsB_bad t.os Hfine.out.grow p y (by have := Hn2.out; omega) hyb (fun x' hx' e => by rw [Hx.out] at hx'; injection hx' with hx'; omega)
    have hbytes : Bytes ((recs t.os).set p y) := (recs_bytes t.os).set p y hyb
    have hbad : w5.ownsRow w3.heap.size 5 1 (.slice (some ⟨gg, 0, none⟩) n2 cap) n2 (((recs t.os).set p y).map (.int .u8)) := by
      rw [hw5, List.map_set]
      exact own_set Hown4.out p _
    have hblen : ((recs t.os).set p y).length = n2 := by rw [List.length_set, recs_len]; exact Hn2.out.symm
    obtain ⟨A5, c5, he5, hA5⟩ := Sl8.of_own hbad hblen hbytes
    injection he5 with he5 _ he6
    subst he5 he6
    have HA5 := Lib.hid hA5
    have Hb5 : Hid (Below w3.heap.size w3 w5) := Lib.hid (by rw [hw5]; exact Hb4.out.setCell hgg _)
    have hs5 := Hb5.out.size
    clear hy hw5 hbad hblen hbytes hA5 hcp hfp
    generalize (recs t.os).set p y = bad at *
    have Ho1 := Lib.hid ho1
    have Ho2 := Lib.hid ho2
    clear ho1 ho2
    go_wp2_with fail
    refine (ordersP_any (some ⟨gg, 0, none⟩) none n2 cap 0 0 bad [] _ (by omega) HA5.out (Sl8.nil_ _)).mono ?_
    rintro e w6 ⟨v6, rfl, hown6, hb6⟩
    rw [List.append_nil] at hown6 ⊢
    rw [Ho1.out] at hown6
    rw [Ho2.out]
    obtain ⟨G, gc, rfl, hG, _⟩ := own_slice hown6
    have hql : (t.os.take (p / 28)).length = p / 28 := by rw [List.length_take]; have := Hn2.out; omega
    have hqn : p / 28 < t.os.length := by have := Hn2.out; omega
    have hlt' := (Lies.take_ord (HL.out.below (Hb5.out.trans (hb6.mono hs5))) (p / 28) (by omega))
    have hc28 : (28 : Int) * ((p / 28 : Nat) : Int) ≤ n2 := by have := Hn2.out; omega
    have e28 : ((28 * t.os.length - 28 * (p / 28) : Nat) : Int) = (n2 : Int) - 28 * ((p / 28 : Nat) : Int) := by have := Hn2.out; omega
    rw [e28]
    rw [hql] at hG ⊢
    have hp28 : (p : Int) / 28 = ((p / 28 : Nat) : Int) := by omega
    have hp28' : (p : Int).tdiv 28 = ((p / 28 : Nat) : Int) := by rw [Int.tdiv_eq_ediv_of_nonneg (by omega)]; exact hp28
    have HG := Lib.hid hG
    have HT := Lib.hid hlt'
    have Hql := Lib.hid hql
    have Hb6 : Hid (Below w3.heap.size w3 w6) := Lib.hid (Hb5.out.trans (hb6.mono hs5))
    clear hG hlt' hql hown6 hb6 e28
    have hqc : ((p / 28 : Nat) : Int) ≤ (lc : Int) := by omega
    have hq0 : 0 ≤ ((p / 28 : Nat) : Int) := by omega
    generalize hqq : p / 28 = q at *
    clear hqq
    have hq28 : wrap64 (28 * (q : Int)) = 28 * (q : Int) := w64_id _ (by omega) (by omega)
    have hsub : wrap64 ((n2 : Int) - 28 * (q : Int)) = (n2 : Int) - 28 * (q : Int) := w64_id _ (by omega) (by omega)
    have Hqn := Lib.hid hqn
    clear hc28 hqn hlen hn140
    go_upto_region 12 with fail
    have Hq28 := Lib.hid hq28
    have Hsub := Lib.hid hsub
    clear hxy hyb hxb hpl hcm
    obtain ⟨P, hP⟩ : ∃ P : Int, P = (p : Int) := ⟨_, rfl⟩
    rw [← hP] at hp28 hp28' ⊢
    have hpw : wrap64 (P.tdiv 28) = (q : Int) := by rw [hp28']; exact w64_id _ (by omega) (by have := Hqn.out; omega)
    have Hlen := Lib.hid (show t.os.length ≤ 5 from hcnt)
    clear hP hp28 hp28' h0 hc0 hLc hcap hpn
    go_wp2_with (first
      | (go_at_call 17; refine (lists_any _ _ _ _ _ _ (t.os.take q) (t.os.take q) _ Hql.out Hql.out (by have := Hqn.out; have := Hlen.out; omega) (by have := Hqn.out; have := Hlen.out; omega) HG.out HT.out).mono ?_; rintro e w7 ⟨rfl, hb7⟩; rw [decide_eq_true rfl])
      | (go_at_call 18; refine (awake_any _).mono ?_; rintro e w8 ⟨rfl, hb8⟩)
      | fail)
    all_goals go_ret
    all_goals exact ⟨rfl, Hw2.out.trans ((Hb6.out.trans ((hb7.trans (hb8.mono hb7.size)).mono Hb6.out.size)).mono Hw2.out.size)⟩
end Go.Proofs.Ytbkfdpdcnjecbaa
