/- Contract: Sample of the reference (draw): who has fewer than k before it. -/
import Derived.Test.YtjmbdfoegnfpnaaE5
namespace Go.Proofs.Ytjmbdfoegnfpnaa
open Go.RowKit
set_option linter.unusedVariables false
set_option linter.unusedSimpArgs false

def befN (s : Int) (l : List Int) (u : Int) : Nat := l.countP fun v => beforeT s v u
def inN (s : Int) (l : List Int) (k u : Int) : Bool := decide ((befN s l u : Int) < k)
theorem sample_res (s : Int) (l : List Int) (k : Int) (h : ¬ 60 < l.length) (hb : (List.range l.length).any (badU l) = false) (h0 : ¬ k < 0) (h1 : ¬ (l.length : Int) < k) :
    sampleP s l k = (srt (l.filter (inN s l k)), 0) := by
  have e := sample_count s l k hb (by omega)
  unfold sampleP
  rw [if_neg h, hb, if_neg (by simp), if_neg (by omega), e]
  rfl
theorem befN_succ (s : Int) (l : List Int) (u : Int) (j : Nat) (hj : j < l.length) : befN s (l.take (j + 1)) u = befN s (l.take j) u + if beforeT s l[j] u then 1 else 0 := by
  unfold befN
  rw [List.take_succ_eq_append_getElem hj, List.countP_append, List.countP_cons, List.countP_nil, Nat.zero_add]
theorem befN_le (s : Int) (l : List Int) (u : Int) : befN s l u ≤ l.length := List.countP_le_length
theorem drawn_succ (f : Int → Bool) (l : List Int) (j : Nat) (hj : j < l.length) : srt ((l.take (j + 1)).filter f) = if f l[j] then putP (srt ((l.take j).filter f)) l[j] else srt ((l.take j).filter f) := by
  rw [List.take_succ_eq_append_getElem hj, List.filter_append, List.filter_cons, List.filter_nil]
  cases f l[j]
  · simp
  · simp [srt_snoc]
theorem drawn_len (f : Int → Bool) (l : List Int) (j : Nat) : (srt ((l.take j).filter f)).length ≤ j := by
  rw [srt_len]
  exact Nat.le_trans (List.length_filter_le _ _) (by rw [List.length_take]; omega)

set_option maxHeartbeats 4000000 in
set_option maxRecDepth 100000 in
theorem sampleR_any (s : Int) (A : Option Addr) (c : Nat) (l : List Int) (k : Int) (w : World) (hA : Sl w A c (l.map (.int .i64))) :
    Calls Try.prog 43 #[.int .u64 s, .slice A l.length c, .int .i64 k] w (SamplePost w (sampleP s l k)) := by
  have HA := Lib.hid hA
  have HS : Hid (sampleP s l k = if 60 < l.length then ([], 1) else if (List.range l.length).any (badU l) then ([], 65) else if k < 0 ∨ (l.length : Int) < k then ([], 2) else (srt ((tickS s l).take k.toNat), 0)) := Lib.hid rfl
  have HS1 := Lib.hid (sample_res s l k)
  clear hA
  obtain ⟨n, hn⟩ : ∃ n, l.length = n := ⟨_, rfl⟩
  have Hn := Lib.hid hn
  rw [hn] at HS HS1 ⊢
  clear hn
  by_cases hbig : 60 < n
  · have e0 : sampleP s l k = ([], 1) := by rw [HS.out, if_pos hbig]
    rw [e0]
    have hb' : (60 : Int) < (n : Int) := by omega
    clear e0 HS HS1
    go_enter Try.func43, Try.ntmps43
    go_wp2
    refine bodyPost_ret (v := .tuple #[.slice none 0 0, .int .i64 1]) (by simp [results, Try.results43, go_sem, *]) rfl ?_
    exact ⟨_, rfl, World.ownsRow_nil _ _ _ _, Below.refl _ _⟩
  · have hb' : ¬ (60 : Int) < (n : Int) := by omega
    have HS2 : Hid (sampleP s l k = if (List.range n).any (badU l) then ([], 65) else if k < 0 ∨ (n : Int) < k then ([], 2) else (srt ((tickS s l).take k.toNat), 0)) := Lib.hid (by rw [HS.out, if_neg hbig])
    clear HS
    generalize sampleP s l k = res at *
    go_enter Try.func43, Try.ntmps43
    go_wp2
    go_loopw [8] (fun i wr => ∃ j : Nat, j ≤ n ∧ i = .int .i64 (j : Int) ∧ Hid ((List.range j).any (badU l) = false) ∧ Below w.heap.size w wr) (fun i _ => n - (intOf i).toNat)
    case atStart => exact ⟨0, Nat.zero_le _, rfl, Lib.hid rfl, Below.refl _ _⟩
    case round =>
      obtain ⟨j, hj, rfl, Hok, hbw⟩ := hrel
      have Hbw := Lib.hid hbw
      clear hbw
      by_cases hjn : j < n
      · have hjl : j < l.length := by have := Hn.out; omega
        obtain ⟨b, off, hAe, hb, c0⟩ := (HA.out.below Hbw.out).at j hjl
        have HAe := Lib.hid hAe
        have Hbad : Hid (badU l j = (decide (l[j] < 0) || decide (l[j] ∈ l.take j))) := Lib.hid (by simp [badU, List.getD_eq_getElem?_getD, hjl])
        have Hhit : Hid (badU l j = true → res = ([], 65)) := Lib.hid (fun hb => by
          rw [HS2.out, if_pos]
          rw [List.any_eq_true]
          exact ⟨j, by simp; omega, hb⟩)
        have Hin : Hid (∀ m, (h : m < j) → l[m]'(by omega) = l[j] → l[j] ∈ l.take j) := Lib.hid (fun m h e => by rw [List.mem_take_iff_getElem]; exact ⟨m, by omega, e⟩)
        have Hcj : Hid (∀ W, Below w.heap.size w W → W.cell? ⟨b, off + j, none⟩ = some (.int .i64 l[j])) := Lib.hid (fun W hW => by
          obtain ⟨b', off', hAe', _, c'⟩ := (HA.out.below hW).at j hjl
          rw [HAe.out] at hAe'
          cases hAe'
          exact c')
        generalize l[j] = y at *
        have hjn' : (j : Int) < (n : Int) := by omega
        by_cases hy : y < 0
        · have hR := Hhit.out (by rw [Hbad.out]; simp [hy])
          subst hR
          subst hAe
          clear HS2 HS1 Hhit Hbad Hcj Hin
          go_wp2
          refine bodyPost_ret (v := .tuple #[.slice none 0 0, .int .i64 65]) (by simp [results, Try.results43, go_sem, *]) rfl ?_
          exact ⟨_, rfl, World.ownsRow_nil _ _ _ _, Hbw.out⟩
        · subst hAe
          have Hc0 := Lib.hid c0
          go_wp2
          obtain ⟨wo, rfl⟩ : ∃ wo : World, wo = wr := ⟨_, rfl⟩
          clear c0
          go_loopw [9] (fun i wr => ∃ m : Nat, m ≤ j ∧ i = .int .i64 (m : Int) ∧ Hid (y ∉ l.take m) ∧ Below w.heap.size w wr) (fun i _ => j - (intOf i).toNat)
          case atStart => exact ⟨0, Nat.zero_le _, rfl, Lib.hid (by simp), Hbw.out⟩
          case round =>
            obtain ⟨m, hm, rfl, Hno, hbw2⟩ := hrel
            have Hbw2 := Lib.hid hbw2
            clear hbw2
            by_cases hmj : m < j
            · have hml : m < l.length := by omega
              obtain ⟨b', off', hAe', _, c1⟩ := (HA.out.below Hbw2.out).at m hml
              cases hAe'
              have c2 := Hcj.out _ Hbw2.out
              have Hms := Lib.hid (mem_take_succ hml y)
              have Hz := Lib.hid (Hin.out m hmj)
              have hmj' : (m : Int) < (j : Int) := by omega
              have hmn' : (m : Int) < (n : Int) := by omega
              generalize l[m] = z at *
              by_cases hzy : z = y
              · have hR := Hhit.out (by rw [Hbad.out]; simp [Hz.out hzy])
                subst hR
                subst hzy
                clear HS2 HS1 Hhit Hbad Hcj Hin Hz Hms
                go_wp2
                go_quiet (fail)
                go_wp2
                refine bodyPost_ret (v := .tuple #[.slice none 0 0, .int .i64 65]) (by simp [results, Try.results43, go_sem, *]) rfl ?_
                exact ⟨_, rfl, World.ownsRow_nil _ _ _ _, below_drewN Hbw2.out _⟩
              · have Hno2 : Hid (y ∉ l.take (m + 1)) := Lib.hid (by rw [Hms.out]; intro h; rcases h with h | h; exact Hno.out h; exact hzy h.symm)
                clear Hz Hms
                go_wp2
                go_quiet (fail)
                go_wp2
                go_roundw
                case rel => exact ⟨m + 1, by omega, by go_num, Hno2, below_drewN Hbw2.out _⟩
                case measure => simp [intOf]; omega
            · have hmj' : ¬ (m : Int) < (j : Int) := by omega
              have Hok2 : Hid ((List.range (j + 1)).any (badU l) = false) := Lib.hid (any_false_succ Hok.out (by rw [Hbad.out]; have := Hno.out; rw [show m = j by omega] at this; simp [hy, this]))
              clear Hhit Hbad Hcj Hin
              go_wp2
              go_roundw
              case rel => exact ⟨j + 1, by omega, by go_num, Hok2, Hbw2.out⟩
              case measure => simp [intOf]; omega
      · have hjn' : ¬ (j : Int) < (n : Int) := by omega
        have Hok2 : Hid ((List.range n).any (badU l) = false) := Lib.hid (by have := Hok.out; rwa [show j = n by omega] at this)
        have HS3 : Hid (res = if k < 0 ∨ (n : Int) < k then ([], 2) else (srt ((tickS s l).take k.toNat), 0)) := Lib.hid (by rw [HS2.out, Hok2.out]; rfl)
        clear HS2
        by_cases hk0 : k < 0
        · have hR : res = ([], 2) := by rw [HS3.out, if_pos (.inl hk0)]
          subst hR
          clear HS3 HS1
          go_wp2
          refine bodyPost_ret (v := .tuple #[.slice none 0 0, .int .i64 2]) (by simp [results, Try.results43, go_sem, *]) rfl ?_
          exact ⟨_, rfl, World.ownsRow_nil _ _ _ _, Hbw.out⟩
        · by_cases hkn : (n : Int) < k
          · have hR : res = ([], 2) := by rw [HS3.out, if_pos (.inr hkn)]
            subst hR
            clear HS3 HS1
            go_wp2
            refine bodyPost_ret (v := .tuple #[.slice none 0 0, .int .i64 2]) (by simp [results, Try.results43, go_sem, *]) rfl ?_
            exact ⟨_, rfl, World.ownsRow_nil _ _ _ _, Hbw.out⟩
          · have hR : res = (srt (l.filter (inN s l k)), 0) := HS1.out (by omega) Hok2.out (by omega) (by omega)
            subst hR
            clear HS3 HS1
            go_wp2
            obtain ⟨wo, rfl⟩ : ∃ wo : World, wo = wr := ⟨_, rfl⟩
            have hso := Hbw.out.size
            go_loopw [10, 11] (fun v i wr => ∃ q : Nat, q ≤ n ∧ i = .int .i64 (q : Int) ∧ wr.ownsRow w.heap.size 3 1 v (srt ((l.take q).filter (inN s l k))).length ((srt ((l.take q).filter (inN s l k))).map (.int .i64)) ∧ Below w.heap.size w wr) (fun _ i _ => n - (intOf i).toNat)
            case atStart => exact ⟨0, Nat.zero_le _, rfl, by rw [show srt (List.filter (inN s l k) (List.take 0 l)) = [] from List.length_eq_zero_iff.1 (by rw [srt_len]; simp)]; exact World.ownsRow_nil _ _ _ _, Hbw.out⟩
            case round =>
              obtain ⟨q, hq, rfl, hown, hbw2⟩ := hrel
              have Hown := Lib.hid hown
              have Hbw2 := Lib.hid hbw2
              have hdl := drawn_len (inN s l k) l q
              clear hown hbw2
              by_cases hqn : q < n
              · have hql : q < l.length := by have := Hn.out; omega
                obtain ⟨b, off, hAe, hb, c0⟩ := (HA.out.below Hbw2.out).at q hql
                have HAe := Lib.hid hAe
                have Hds := Lib.hid (drawn_succ (inN s l k) l q hql)
                have hqn' : (q : Int) < (n : Int) := by omega
                have Hcq : Hid (∀ W, Below w.heap.size w W → W.cell? ⟨b, off + q, none⟩ = some (.int .i64 l[q])) := Lib.hid (fun W hW => by
                  obtain ⟨b', off', hAe', _, c'⟩ := (HA.out.below hW).at q hql
                  rw [HAe.out] at hAe'
                  cases hAe'
                  exact c')
                subst hAe
                generalize srt ((l.take q).filter (inN s l k)) = Q at *
                generalize l[q] = y at *
                obtain ⟨ta, hta⟩ : ∃ ta, tickI s y = ta := ⟨_, rfl⟩
                have Hta := Lib.hid hta
                have HT := Lib.hid (fun W => tickR_any s y W)
                rw [hta] at HT
                have Hin : Hid (inN s l k y = decide ((befN s l y : Int) < k)) := Lib.hid rfl
                clear hta hql
                go_wp2_with (first | (go_at_call 61; refine (HT.out _).mono ?_; rintro e w1 ⟨rfl, rfl⟩) | fail)
                obtain ⟨wi, rfl⟩ : ∃ wi : World, wi = w1 := ⟨_, rfl⟩
                clear c0 HT
                go_loopw [12, 14] (fun bn i wr => ∃ m : Nat, m ≤ n ∧ i = .int .i64 (m : Int) ∧ bn = .int .i64 (befN s (l.take m) y : Int) ∧ ∃ dn, wr = wi.drewN dn) (fun _ i _ => n - (intOf i).toNat)
                case atStart => exact ⟨0, Nat.zero_le _, rfl, rfl, 0, rfl⟩
                case round =>
                  obtain ⟨m, hm, rfl, rfl, dn, rfl⟩ := hrel
                  have hbl : befN s (l.take m) y ≤ m := Nat.le_trans (befN_le s _ y) (by rw [List.length_take]; omega)
                  by_cases hmn : m < n
                  · have hml : m < l.length := by have := Hn.out; omega
                    obtain ⟨b', off', hAe', _, c1⟩ := (HA.out.below Hbw2.out).at m hml
                    cases hAe'
                    have c2 := Hcq.out _ Hbw2.out
                    have Hbs := Lib.hid (befN_succ s l y m hml)
                    have hmn' : (m : Int) < (n : Int) := by omega
                    generalize befN s (l.take m) y = B at *
                    generalize l[m] = z at *
                    obtain ⟨tb, htb⟩ : ∃ tb, tickI s z = tb := ⟨_, rfl⟩
                    have HTz := Lib.hid (fun W => tickR_any s z W)
                    rw [htb] at HTz
                    have Hbe : Hid (beforeT s z y = (decide (tb < ta) || (decide (tb = ta) && decide (z < y)))) := Lib.hid (by unfold beforeT; rw [htb, Hta.out])
                    rw [Hbe.out] at Hbs
                    clear htb hml
                    by_cases h1 : tb < ta
                    · have d1 : decide (tb < ta) = true := by simpa using h1
                      have Hb1 : Hid ((befN s (l.take (m + 1)) y : Int) = (B : Int) + 1) := Lib.hid (by rw [Hbs.out]; simp [h1])
                      clear Hbs Hbe
                      go_wp2_with (first | (go_at_call 61; refine (HTz.out _).mono ?_; rintro e w1 ⟨rfl, rfl⟩) | fail)
                      go_quiet (fail)
                      go_wp2
                      go_roundw
                      case rel => exact ⟨m + 1, by omega, by go_num, by rw [Hb1.out], _, rfl⟩
                      case measure => simp [intOf]; omega
                    · have d1 : decide (tb < ta) = false := by simpa using h1
                      by_cases h2 : tb = ta
                      · subst h2
                        by_cases h3 : z < y
                        · have Hb1 : Hid ((befN s (l.take (m + 1)) y : Int) = (B : Int) + 1) := Lib.hid (by rw [Hbs.out]; simp [h3])
                          clear Hbs Hbe
                          go_wp2_with (first | (go_at_call 61; refine (HTz.out _).mono ?_; rintro e w1 ⟨rfl, rfl⟩) | fail)
                          go_quiet (fail)
                          go_wp2
                          go_roundw
                          case rel => exact ⟨m + 1, by omega, by go_num, by rw [Hb1.out], _, rfl⟩
                          case measure => simp [intOf]; omega
                        · have Hb1 : Hid ((befN s (l.take (m + 1)) y : Int) = (B : Int)) := Lib.hid (by rw [Hbs.out]; simp [h3])
                          clear Hbs Hbe
                          go_wp2_with (first | (go_at_call 61; refine (HTz.out _).mono ?_; rintro e w1 ⟨rfl, rfl⟩) | fail)
                          go_quiet (fail)
                          go_wp2
                          go_roundw
                          case rel => exact ⟨m + 1, by omega, by go_num, by rw [Hb1.out], _, rfl⟩
                          case measure => simp [intOf]; omega
                      · have d2 : (tb == ta) = false := by simpa using h2
                        have Hb1 : Hid ((befN s (l.take (m + 1)) y : Int) = (B : Int)) := Lib.hid (by rw [Hbs.out]; simp [h1, h2])
                        clear Hbs Hbe
                        go_wp2_with (first | (go_at_call 61; refine (HTz.out _).mono ?_; rintro e w1 ⟨rfl, rfl⟩) | fail)
                        go_quiet (fail)
                        go_wp2
                        go_roundw
                        case rel => exact ⟨m + 1, by omega, by go_num, by rw [Hb1.out], _, rfl⟩
                        case measure => simp [intOf]; omega
                  · have hmn' : ¬ (m : Int) < (n : Int) := by omega
                    have et : befN s (l.take m) y = befN s l y := by rw [List.take_of_length_le (by have := Hn.out; omega)]
                    rw [et] at hbl ⊢
                    clear et
                    generalize befN s l y = B at *
                    have c2 := Hcq.out _ Hbw2.out
                    by_cases hB : (B : Int) < k
                    · have Hf : Hid (srt ((l.take (q + 1)).filter (inN s l k)) = putP Q y) := Lib.hid (by rw [Hds.out, Hin.out, decide_eq_true hB]; rfl)
                      obtain ⟨QA, Qc, rfl, _, _, _⟩ := own_slice Hown.out
                      have HQ : Hid (Sl (wi.drewN dn) QA Qc (Q.map (.int .i64))) := Lib.hid (Sl.of_own (ownsRow_below Hown.out (below_drewN (Below.refl _ _) dn)) (by simp))
                      have HP := Lib.hid (putR_any QA Q.length Qc Q y (wi.drewN dn) HQ.out rfl (by omega))
                      clear Hds Hin Hcq HQ
                      go_wp2_with (first | (go_at_call 62; refine HP.out.mono ?_; rintro e w5 ⟨v5, rfl, hown5, hb5⟩; have Hown5 := Lib.hid hown5; have Hb5 := Lib.hid hb5; clear hown5 hb5) | fail)
                      go_roundw
                      case rel => exact ⟨q + 1, by omega, by go_num, by rw [Hf.out]; exact own_rebase Hown5.out (Hbw2.out.size), Hbw2.out.trans ((show Below wi.heap.size wi w5 from (below_drewN (Below.refl _ _) dn).trans Hb5.out).mono Hbw2.out.size)⟩
                      case measure => simp [intOf]; omega
                    · have Hf : Hid (srt ((l.take (q + 1)).filter (inN s l k)) = Q) := Lib.hid (by rw [Hds.out, Hin.out, decide_eq_false hB]; rfl)
                      clear Hds Hin Hcq
                      go_wp2
                      go_roundw
                      case rel => exact ⟨q + 1, by omega, by go_num, by rw [Hf.out]; exact ownsRow_below Hown.out (below_drewN (Below.refl _ _) dn), below_drewN Hbw2.out dn⟩
                      case measure => simp [intOf]; omega
              · have hqn' : ¬ (q : Int) < (n : Int) := by omega
                have et : l.take q = l := List.take_of_length_le (by have := Hn.out; omega)
                rw [et] at Hown
                clear et
                generalize srt (l.filter (inN s l k)) = R at *
                go_wp2
                refine bodyPost_ret (v := .tuple #[u10, .int .i64 0]) (by simp [results, Try.results43, go_sem, *]) rfl ?_
                exact ⟨_, rfl, Hown.out, Hbw2.out⟩
end Go.Proofs.Ytjmbdfoegnfpnaa
