/- Contract: Same (the reference of draw). -/
import Derived.Test.YtbkkmgofjhaaoaaD5
namespace Go.Proofs.Ytbkkmgofjhaaoaa
open Go.RowKit
set_option linter.unusedVariables false
set_option linter.unusedSimpArgs false

theorem take_eq_step {α : Type} {l k : List α} {i : Nat} (hl : i < l.length) (hk : i < k.length) (h : l.take i = k.take i) (e : l[i] = k[i]) : l.take (i + 1) = k.take (i + 1) := by
  rw [List.take_succ_eq_append_getElem hl, List.take_succ_eq_append_getElem hk, h, e]
theorem Dr.eq_iff (a b : Dr) : a = b ↔ a.st = b.st ∧ a.se = b.se ∧ a.sd = b.sd ∧ a.sx = b.sx ∧ a.rv = b.rv := by
  cases a; cases b; simp

set_option maxHeartbeats 4000000 in
set_option maxRecDepth 100000 in
theorem same_any (p q : DV) (a b : Dr) (w : World) (ha : DrAt w p a) (hb : DrAt w q b) (hl : a.small) :
    Calls Try.prog 19 #[.agg #[.int .i64 a.st, .slice p.a1 a.se.length p.c1, .slice p.a2 a.sd.length p.c2, .slice p.a3 a.sx.length p.c3, .slice p.a4 a.rv.length p.c4], .agg #[.int .i64 b.st, .slice q.a1 b.se.length q.c1, .slice q.a2 b.sd.length q.c2, .slice q.a3 b.sx.length q.c3, .slice q.a4 b.rv.length q.c4]] w fun e w' => e = .returned (.bool (decide (a = b))) ∧ Below w.heap.size w w' := by
  have HA := Lib.hid ha
  have HB := Lib.hid hb
  unfold Dr.small at hl
  obtain ⟨l1, l2, l3, l4⟩ := hl
  clear ha hb
  obtain ⟨x, hx⟩ : ∃ x, decide (a = b) = x := ⟨_, rfl⟩
  rw [hx]
  have Hx := Lib.hid hx
  have Hne : Hid (¬ (a.st = b.st ∧ a.se = b.se ∧ a.sd = b.sd ∧ a.sx = b.sx ∧ a.rv = b.rv) → x = false) := Lib.hid (fun h => by rw [← hx, decide_eq_false_iff_not, Dr.eq_iff]; exact h)
  have Heq : Hid ((a.st = b.st ∧ a.se = b.se ∧ a.sd = b.sd ∧ a.sx = b.sx ∧ a.rv = b.rv) → x = true) := Lib.hid (fun h => by rw [← hx, decide_eq_true_eq, Dr.eq_iff]; exact h)
  clear hx
  by_cases hf : a.st = b.st ∧ a.se.length = b.se.length ∧ a.sd.length = b.sd.length ∧ a.sx.length = b.sx.length ∧ a.rv.length = b.rv.length
  · obtain ⟨e0, e1, e2, e3, e4⟩ := hf
    have HE0 := Lib.hid e0
    have HE1 := Lib.hid e1
    have HE2 := Lib.hid e2
    have HE3 := Lib.hid e3
    have HE4 := Lib.hid e4
    rw [← e0, ← e1, ← e2, ← e3, ← e4]
    obtain ⟨st, hst⟩ : ∃ st, a.st = st := ⟨_, rfl⟩
    obtain ⟨n1, h1⟩ : ∃ n, a.se.length = n := ⟨_, rfl⟩
    obtain ⟨n2, h2⟩ : ∃ n, a.sd.length = n := ⟨_, rfl⟩
    obtain ⟨n3, h3⟩ : ∃ n, a.sx.length = n := ⟨_, rfl⟩
    obtain ⟨n4, h4⟩ : ∃ n, a.rv.length = n := ⟨_, rfl⟩
    have H1 := Lib.hid h1
    have H2 := Lib.hid h2
    have H3 := Lib.hid h3
    have H4 := Lib.hid h4
    rw [hst, h1, h2, h3, h4]
    rw [h1] at l1
    rw [h2] at l2
    rw [h3] at l3
    rw [h4] at l4
    clear e0 e1 e2 e3 e4 hst h1 h2 h3 h4
    go_enter Try.func19, Try.ntmps19
    go_upto_region 4 with fail
    obtain ⟨w0, hw0⟩ : ∃ w0 : World, w0 = (w.alloc (.cells #[.int .i64 st, .slice p.a1 n1 p.c1, .slice p.a2 n2 p.c2, .slice p.a3 n3 p.c3, .slice p.a4 n4 p.c4] 26)).alloc (.cells #[.int .i64 st, .slice q.a1 n1 q.c1, .slice q.a2 n2 q.c2, .slice q.a3 n3 q.c3, .slice q.a4 n4 q.c4] 26) := ⟨_, rfl⟩
    rw [← hw0]
    have hra : w0.heap[w.heap.size]? = some (.cells #[.int .i64 st, .slice p.a1 n1 p.c1, .slice p.a2 n2 p.c2, .slice p.a3 n3 p.c3, .slice p.a4 n4 p.c4] 26 (0, 0)) := by rw [hw0]; exact (Below.heap_alloc _ _ _ (by simp)).trans (heap_alloc_new w _)
    have hrb : w0.heap[w.heap.size + 1]? = some (.cells #[.int .i64 st, .slice q.a1 n1 q.c1, .slice q.a2 n2 q.c2, .slice q.a3 n3 q.c3, .slice q.a4 n4 q.c4] 26 (0, 0)) := by
      have := heap_alloc2_new w (.cells #[.int .i64 st, .slice p.a1 n1 p.c1, .slice p.a2 n2 p.c2, .slice p.a3 n3 p.c3, .slice p.a4 n4 p.c4] 26) (.cells #[.int .i64 st, .slice q.a1 n1 q.c1, .slice q.a2 n2 q.c2, .slice q.a3 n3 q.c3, .slice q.a4 n4 q.c4] 26)
      rw [hw0]; exact this
    have Hra := Lib.hid hra
    have Hrb := Lib.hid hrb
    have hs0 : w.heap.size + 1 < w0.heap.size := by rw [hw0]; simp
    have hs0' : w.heap.size < w0.heap.size := by omega
    have Hb0 : Hid (Below w.heap.size w w0) := Lib.hid (by rw [hw0]; exact (by repeat' (first | with_reducible exact Below.refl _ _ | with_reducible refine below_drewN ?_ _ | with_reducible refine Below.drew ?_ | with_reducible refine Below.alloc ?_ ?_ _ | with_reducible refine Below.setCell ?_ ?_ _ | with_reducible refine Below.trans ?_ (Below.mono (by with_reducible assumption) ?_) | (simp; done) | (simp; omega) | omega)))
    clear hw0 hra hrb
    go_loopw [5] (fun i wr => ∃ k : Nat, k ≤ n1 ∧ i = .int .i64 (k : Int) ∧ Hid (a.se.take k = b.se.take k) ∧ Below w0.heap.size w0 wr) (fun i _ => n1 - (intOf i).toNat)
    case atStart => exact ⟨0, Nat.zero_le _, rfl, Lib.hid rfl, Below.refl _ _⟩
    case round =>
      obtain ⟨k, hk, rfl, Htk, hbw⟩ := hrel
      have hra := (hbw.block _ hs0').trans Hra.out
      have hrb := (hbw.block _ hs0).trans Hrb.out
      have za := cell_of_row _ _ 1 _ _ _ hra
      have zb := cell_of_row _ _ 1 _ _ _ hrb
      have hsw := hbw.size
      have Hbw := Lib.hid hbw
      have hbw2 := Hb0.out.trans (hbw.mono (by omega))
      have Hbw2 := Lib.hid hbw2
      by_cases hkn : k < n1
      · have la : k < a.se.length := by have := H1.out; omega
        have lb : k < b.se.length := by have := H1.out; have := HE1.out; omega
        obtain ⟨b1, o1, e1, hb1, c1⟩ := HA.out.s1.at k la
        obtain ⟨b2, o2, e2, hb2, c2⟩ := HB.out.s1.at k lb
        have c1 := (hbw2.cell (p := ⟨b1, o1 + k, none⟩) hb1).trans c1
        have c2 := (hbw2.cell (p := ⟨b2, o2 + k, none⟩) hb2).trans c2
        have Hnext := Lib.hid (fun e => take_eq_step la lb Htk.out e)
        have Hno : Hid (¬ a.se[k] = b.se[k] → x = false) := Lib.hid (fun h => Hne.out (fun h2 => h (by
          have h3 : a.se = b.se := h2.2.1
          have h4 : a.se[k]? = b.se[k]? := by rw [h3]
          rw [List.getElem?_eq_getElem la, List.getElem?_eq_getElem lb] at h4
          exact Option.some.inj h4)))
        generalize a.se[k] = va at *
        generalize b.se[k] = vb at *
        rw [e1] at za
        rw [e2] at zb
        have hkn' : (k : Int) < (n1 : Int) := by omega
        clear hra hrb hbw hbw2 e1 e2
        by_cases hv : va = vb
        · subst hv
          have Hn2 := Lib.hid (Hnext.out rfl)
          clear Hnext Hno
          go_upto_region 6 with fail
          go_quiet (fail)
          go_wp2
          go_roundw
          case rel => exact ⟨k + 1, by omega, by go_num, Hn2, below_drewN Hbw.out _⟩
          case measure => simp [intOf]; omega
        · have hxf := Hno.out hv
          subst hxf
          clear Hnext Hno
          go_upto_region 6 with fail
          go_quiet (fail)
          go_wp2
          go_ret
          exact ⟨rfl, below_drewN Hbw2.out _⟩
      · have hkk : k = n1 := by omega
        have hall : Hid (a.se = b.se) := Lib.hid (by have := Htk.out; rwa [List.take_of_length_le (by have := H1.out; omega), List.take_of_length_le (by have := H1.out; have := HE1.out; omega)] at this)
        have hkn' : ¬ (k : Int) < (n1 : Int) := by omega
        have Hall1 := hall
        have _wt1 : Hid True := Lib.hid trivial
        clear hall hra hrb hbw hbw2
        obtain ⟨wk1, hwk1⟩ : ∃ wk : World, wk = wr := ⟨_, rfl⟩
        subst hwk1
        go_upto_region 9 with fail
        go_loopw [6] (fun i wr => ∃ k : Nat, k ≤ n2 ∧ i = .int .i64 (k : Int) ∧ Hid (a.sd.take k = b.sd.take k) ∧ Below w0.heap.size w0 wr) (fun i _ => n2 - (intOf i).toNat)
        case atStart => exact ⟨0, Nat.zero_le _, rfl, Lib.hid rfl, Hbw.out⟩
        case round =>
          obtain ⟨k, hk, rfl, Htk, hbw⟩ := hrel
          have hra := (hbw.block _ hs0').trans Hra.out
          have hrb := (hbw.block _ hs0).trans Hrb.out
          have za := cell_of_row _ _ 2 _ _ _ hra
          have zb := cell_of_row _ _ 2 _ _ _ hrb
          have hsw := hbw.size
          have Hbw := Lib.hid hbw
          have hbw2 := Hb0.out.trans (hbw.mono (by omega))
          have Hbw2 := Lib.hid hbw2
          by_cases hkn : k < n2
          · have la : k < a.sd.length := by have := H2.out; omega
            have lb : k < b.sd.length := by have := H2.out; have := HE2.out; omega
            obtain ⟨b1, o1, e1, hb1, c1⟩ := HA.out.s2.at k la
            obtain ⟨b2, o2, e2, hb2, c2⟩ := HB.out.s2.at k lb
            have c1 := (hbw2.cell (p := ⟨b1, o1 + k, none⟩) hb1).trans c1
            have c2 := (hbw2.cell (p := ⟨b2, o2 + k, none⟩) hb2).trans c2
            have Hnext := Lib.hid (fun e => take_eq_step la lb Htk.out e)
            have Hno : Hid (¬ a.sd[k] = b.sd[k] → x = false) := Lib.hid (fun h => Hne.out (fun h2 => h (by
              have h3 : a.sd = b.sd := h2.2.2.1
              have h4 : a.sd[k]? = b.sd[k]? := by rw [h3]
              rw [List.getElem?_eq_getElem la, List.getElem?_eq_getElem lb] at h4
              exact Option.some.inj h4)))
            generalize a.sd[k] = va at *
            generalize b.sd[k] = vb at *
            rw [e1] at za
            rw [e2] at zb
            have hkn' : (k : Int) < (n2 : Int) := by omega
            clear hra hrb hbw hbw2 e1 e2
            by_cases hv : va = vb
            · subst hv
              have Hn2 := Lib.hid (Hnext.out rfl)
              clear Hnext Hno
              go_upto_region 11 with fail
              go_quiet (fail)
              go_wp2
              go_roundw
              case rel => exact ⟨k + 1, by omega, by go_num, Hn2, below_drewN Hbw.out _⟩
              case measure => simp [intOf]; omega
            · have hxf := Hno.out hv
              subst hxf
              clear Hnext Hno
              rcases va with _ | _ <;> rcases vb with _ | _
              · exact absurd rfl hv
              · clear hv
                go_upto_region 11 with fail
                go_quiet (fail)
                go_wp2
                go_ret
                exact ⟨rfl, below_drewN Hbw2.out _⟩
              · clear hv
                go_upto_region 11 with fail
                go_quiet (fail)
                go_wp2
                go_ret
                exact ⟨rfl, below_drewN Hbw2.out _⟩
              · exact absurd rfl hv
          · have hkk : k = n2 := by omega
            have hall : Hid (a.sd = b.sd) := Lib.hid (by have := Htk.out; rwa [List.take_of_length_le (by have := H2.out; omega), List.take_of_length_le (by have := H2.out; have := HE2.out; omega)] at this)
            have hkn' : ¬ (k : Int) < (n2 : Int) := by omega
            have Hall2 := hall
            have _wt2 : Hid True := Lib.hid trivial
            clear hall hra hrb hbw hbw2
            obtain ⟨wk2, hwk2⟩ : ∃ wk : World, wk = wr := ⟨_, rfl⟩
            subst hwk2
            go_upto_region 14 with fail
            go_loopw [7] (fun i wr => ∃ k : Nat, k ≤ n3 ∧ i = .int .i64 (k : Int) ∧ Hid (a.sx.take k = b.sx.take k) ∧ Below w0.heap.size w0 wr) (fun i _ => n3 - (intOf i).toNat)
            case atStart => exact ⟨0, Nat.zero_le _, rfl, Lib.hid rfl, Hbw.out⟩
            case round =>
              obtain ⟨k, hk, rfl, Htk, hbw⟩ := hrel
              have hra := (hbw.block _ hs0').trans Hra.out
              have hrb := (hbw.block _ hs0).trans Hrb.out
              have za := cell_of_row _ _ 3 _ _ _ hra
              have zb := cell_of_row _ _ 3 _ _ _ hrb
              have hsw := hbw.size
              have Hbw := Lib.hid hbw
              have hbw2 := Hb0.out.trans (hbw.mono (by omega))
              have Hbw2 := Lib.hid hbw2
              by_cases hkn : k < n3
              · have la : k < a.sx.length := by have := H3.out; omega
                have lb : k < b.sx.length := by have := H3.out; have := HE3.out; omega
                obtain ⟨b1, o1, e1, hb1, c1⟩ := HA.out.s3.at k la
                obtain ⟨b2, o2, e2, hb2, c2⟩ := HB.out.s3.at k lb
                have c1 := (hbw2.cell (p := ⟨b1, o1 + k, none⟩) hb1).trans c1
                have c2 := (hbw2.cell (p := ⟨b2, o2 + k, none⟩) hb2).trans c2
                have Hnext := Lib.hid (fun e => take_eq_step la lb Htk.out e)
                have Hno : Hid (¬ a.sx[k] = b.sx[k] → x = false) := Lib.hid (fun h => Hne.out (fun h2 => h (by
                  have h3 : a.sx = b.sx := h2.2.2.2.1
                  have h4 : a.sx[k]? = b.sx[k]? := by rw [h3]
                  rw [List.getElem?_eq_getElem la, List.getElem?_eq_getElem lb] at h4
                  exact Option.some.inj h4)))
                generalize a.sx[k] = va at *
                generalize b.sx[k] = vb at *
                rw [e1] at za
                rw [e2] at zb
                have hkn' : (k : Int) < (n3 : Int) := by omega
                clear hra hrb hbw hbw2 e1 e2
                by_cases hv : va = vb
                · subst hv
                  have Hn2 := Lib.hid (Hnext.out rfl)
                  clear Hnext Hno
                  go_upto_region 16 with fail
                  go_quiet (fail)
                  go_wp2
                  go_roundw
                  case rel => exact ⟨k + 1, by omega, by go_num, Hn2, below_drewN Hbw.out _⟩
                  case measure => simp [intOf]; omega
                · have hxf := Hno.out hv
                  subst hxf
                  clear Hnext Hno
                  go_upto_region 16 with fail
                  go_quiet (fail)
                  go_wp2
                  go_ret
                  exact ⟨rfl, below_drewN Hbw2.out _⟩
              · have hkk : k = n3 := by omega
                have hall : Hid (a.sx = b.sx) := Lib.hid (by have := Htk.out; rwa [List.take_of_length_le (by have := H3.out; omega), List.take_of_length_le (by have := H3.out; have := HE3.out; omega)] at this)
                have hkn' : ¬ (k : Int) < (n3 : Int) := by omega
                have Hall3 := hall
                have _wt3 : Hid True := Lib.hid trivial
                clear hall hra hrb hbw hbw2
                obtain ⟨wk3, hwk3⟩ : ∃ wk : World, wk = wr := ⟨_, rfl⟩
                subst hwk3
                go_upto_region 19 with fail
                go_loopw [8] (fun i wr => ∃ k : Nat, k ≤ n4 ∧ i = .int .i64 (k : Int) ∧ Hid (a.rv.take k = b.rv.take k) ∧ Below w0.heap.size w0 wr) (fun i _ => n4 - (intOf i).toNat)
                case atStart => exact ⟨0, Nat.zero_le _, rfl, Lib.hid rfl, Hbw.out⟩
                case round =>
                  obtain ⟨k, hk, rfl, Htk, hbw⟩ := hrel
                  have hra := (hbw.block _ hs0').trans Hra.out
                  have hrb := (hbw.block _ hs0).trans Hrb.out
                  have za := cell_of_row _ _ 4 _ _ _ hra
                  have zb := cell_of_row _ _ 4 _ _ _ hrb
                  have hsw := hbw.size
                  have Hbw := Lib.hid hbw
                  have hbw2 := Hb0.out.trans (hbw.mono (by omega))
                  have Hbw2 := Lib.hid hbw2
                  by_cases hkn : k < n4
                  · have la : k < a.rv.length := by have := H4.out; omega
                    have lb : k < b.rv.length := by have := H4.out; have := HE4.out; omega
                    obtain ⟨b1, o1, e1, hb1, c1⟩ := HA.out.s4.at k la
                    obtain ⟨b2, o2, e2, hb2, c2⟩ := HB.out.s4.at k lb
                    have c1 := (hbw2.cell (p := ⟨b1, o1 + k, none⟩) hb1).trans c1
                    have c2 := (hbw2.cell (p := ⟨b2, o2 + k, none⟩) hb2).trans c2
                    have Hnext := Lib.hid (fun e => take_eq_step la lb Htk.out e)
                    have Hno : Hid (¬ a.rv[k] = b.rv[k] → x = false) := Lib.hid (fun h => Hne.out (fun h2 => h (by
                      have h3 : a.rv = b.rv := h2.2.2.2.2
                      have h4 : a.rv[k]? = b.rv[k]? := by rw [h3]
                      rw [List.getElem?_eq_getElem la, List.getElem?_eq_getElem lb] at h4
                      exact Option.some.inj h4)))
                    generalize a.rv[k] = va at *
                    generalize b.rv[k] = vb at *
                    rw [e1] at za
                    rw [e2] at zb
                    have hkn' : (k : Int) < (n4 : Int) := by omega
                    clear hra hrb hbw hbw2 e1 e2
                    by_cases hv : va = vb
                    · subst hv
                      have Hn2 := Lib.hid (Hnext.out rfl)
                      clear Hnext Hno
                      go_upto_region 21 with fail
                      go_quiet (fail)
                      go_wp2
                      go_roundw
                      case rel => exact ⟨k + 1, by omega, by go_num, Hn2, below_drewN Hbw.out _⟩
                      case measure => simp [intOf]; omega
                    · have hxf := Hno.out hv
                      subst hxf
                      clear Hnext Hno
                      rcases va with _ | _ <;> rcases vb with _ | _
                      · exact absurd rfl hv
                      · clear hv
                        go_upto_region 21 with fail
                        go_quiet (fail)
                        go_wp2
                        go_ret
                        exact ⟨rfl, below_drewN Hbw2.out _⟩
                      · clear hv
                        go_upto_region 21 with fail
                        go_quiet (fail)
                        go_wp2
                        go_ret
                        exact ⟨rfl, below_drewN Hbw2.out _⟩
                      · exact absurd rfl hv
                  · have hkk : k = n4 := by omega
                    have hall : Hid (a.rv = b.rv) := Lib.hid (by have := Htk.out; rwa [List.take_of_length_le (by have := H4.out; omega), List.take_of_length_le (by have := H4.out; have := HE4.out; omega)] at this)
                    have hkn' : ¬ (k : Int) < (n4 : Int) := by omega
                    have Hall4 := hall
                    have _wt4 : Hid True := Lib.hid trivial
                    clear hall hra hrb hbw hbw2
                    have hR := Heq.out ⟨HE0.out, Hall1.out, Hall2.out, Hall3.out, Hall4.out⟩
                    subst hR
                    go_wp2
                    go_ret
                    exact ⟨rfl, Hbw2.out⟩
  · have hR : x = false := Hne.out (fun h => hf ⟨h.1, by rw [h.2.1], by rw [h.2.2.1], by rw [h.2.2.2.1], by rw [h.2.2.2.2]⟩)
    subst hR
    obtain ⟨sa, hsa⟩ : ∃ s, a.st = s := ⟨_, rfl⟩
    obtain ⟨sb, hsb⟩ : ∃ s, b.st = s := ⟨_, rfl⟩
    obtain ⟨n1, h1⟩ : ∃ n, a.se.length = n := ⟨_, rfl⟩
    obtain ⟨n2, h2⟩ : ∃ n, a.sd.length = n := ⟨_, rfl⟩
    obtain ⟨n3, h3⟩ : ∃ n, a.sx.length = n := ⟨_, rfl⟩
    obtain ⟨n4, h4⟩ : ∃ n, a.rv.length = n := ⟨_, rfl⟩
    obtain ⟨m1, g1⟩ : ∃ n, b.se.length = n := ⟨_, rfl⟩
    obtain ⟨m2, g2⟩ : ∃ n, b.sd.length = n := ⟨_, rfl⟩
    obtain ⟨m3, g3⟩ : ∃ n, b.sx.length = n := ⟨_, rfl⟩
    obtain ⟨m4, g4⟩ : ∃ n, b.rv.length = n := ⟨_, rfl⟩
    rw [hsa, hsb, h1, h2, h3, h4, g1, g2, g3, g4] at hf
    rw [hsa, hsb, h1, h2, h3, h4, g1, g2, g3, g4]
    clear hsa hsb h1 h2 h3 h4 g1 g2 g3 g4 Hne Heq Hx
    by_cases k0 : sa = sb
    · subst k0
      by_cases k1 : n1 = m1
      · subst k1
        by_cases k2 : n2 = m2
        · subst k2
          by_cases k3 : n3 = m3
          · subst k3
            have k4 : ¬ n4 = m4 := fun h => hf ⟨rfl, rfl, rfl, rfl, h⟩
            have k4' : ¬ (n4 : Int) = (m4 : Int) := by omega
            clear hf
            go_enter Try.func19, Try.ntmps19
            go_wp2; go_ret; exact ⟨rfl, (by repeat' (first | with_reducible exact Below.refl _ _ | with_reducible refine below_drewN ?_ _ | with_reducible refine Below.drew ?_ | with_reducible refine Below.alloc ?_ ?_ _ | with_reducible refine Below.setCell ?_ ?_ _ | with_reducible refine Below.trans ?_ (Below.mono (by with_reducible assumption) ?_) | (simp; done) | (simp; omega) | omega))⟩
          · have k3' : ¬ (n3 : Int) = (m3 : Int) := by omega
            clear hf
            go_enter Try.func19, Try.ntmps19
            go_wp2; go_ret; exact ⟨rfl, (by repeat' (first | with_reducible exact Below.refl _ _ | with_reducible refine below_drewN ?_ _ | with_reducible refine Below.drew ?_ | with_reducible refine Below.alloc ?_ ?_ _ | with_reducible refine Below.setCell ?_ ?_ _ | with_reducible refine Below.trans ?_ (Below.mono (by with_reducible assumption) ?_) | (simp; done) | (simp; omega) | omega))⟩
        · have k2' : ¬ (n2 : Int) = (m2 : Int) := by omega
          clear hf
          go_enter Try.func19, Try.ntmps19
          go_wp2; go_ret; exact ⟨rfl, (by repeat' (first | with_reducible exact Below.refl _ _ | with_reducible refine below_drewN ?_ _ | with_reducible refine Below.drew ?_ | with_reducible refine Below.alloc ?_ ?_ _ | with_reducible refine Below.setCell ?_ ?_ _ | with_reducible refine Below.trans ?_ (Below.mono (by with_reducible assumption) ?_) | (simp; done) | (simp; omega) | omega))⟩
      · have k1' : ¬ (n1 : Int) = (m1 : Int) := by omega
        clear hf
        go_enter Try.func19, Try.ntmps19
        go_wp2; go_ret; exact ⟨rfl, (by repeat' (first | with_reducible exact Below.refl _ _ | with_reducible refine below_drewN ?_ _ | with_reducible refine Below.drew ?_ | with_reducible refine Below.alloc ?_ ?_ _ | with_reducible refine Below.setCell ?_ ?_ _ | with_reducible refine Below.trans ?_ (Below.mono (by with_reducible assumption) ?_) | (simp; done) | (simp; omega) | omega))⟩
    · clear hf
      go_enter Try.func19, Try.ntmps19
      go_wp2; go_ret; exact ⟨rfl, (by repeat' (first | with_reducible exact Below.refl _ _ | with_reducible refine below_drewN ?_ _ | with_reducible refine Below.drew ?_ | with_reducible refine Below.alloc ?_ ?_ _ | with_reducible refine Below.setCell ?_ ?_ _ | with_reducible refine Below.trans ?_ (Below.mono (by with_reducible assumption) ?_) | (simp; done) | (simp; omega) | omega))⟩
end Go.Proofs.Ytbkkmgofjhaaoaa
