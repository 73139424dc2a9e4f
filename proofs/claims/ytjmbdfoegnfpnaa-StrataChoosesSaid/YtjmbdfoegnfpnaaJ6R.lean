/- Contract: whether units are right (the reference of strata). -/
import Derived.Test.YtjmbdfoegnfpnaaJ6
namespace Go.Proofs.Ytjmbdfoegnfpnaa
open Go.RowKit
set_option linter.unusedVariables false
set_option linter.unusedSimpArgs false

set_option maxHeartbeats 8000000 in
set_option maxRecDepth 100000 in
theorem unitsR_any (p : PlV) (q : Pl) (A : Option Addr) (c : Nat) (l : List (Un × UV)) (w : World) (hA : PlAt w p q) (hL : SlU w A l.length c l) :
    Calls Try.prog 23 #[.agg #[.slice p.a1 q.ws.length p.c1, .slice p.a2 q.ls.length p.c2, .slice p.a3 q.ss.length p.c3, .int .i64 q.le, .int .i64 q.ra], .slice A l.length c] w fun e w' => e = .returned (.int .i64 (unitsP q (uns l))) ∧ Below w.heap.size w w' := by
  have Hv : Hid (unitsP q (uns l) = if checkP q ≠ 0 then checkP q else if 60 < l.length then 1 else firstE (unitE q (uns l)) l.length) := Lib.hid (by unfold unitsP; rw [uns_len])
  generalize unitsP q (uns l) = res at *
  go_enter Try.func23, Try.ntmps23
  go_upto_region 1 with fail
  obtain ⟨wa, hwa⟩ : ∃ wa : World, wa = w.alloc (.cells #[.slice p.a1 q.ws.length p.c1, .slice p.a2 q.ls.length p.c2, .slice p.a3 q.ss.length p.c3, .int .i64 q.le, .int .i64 q.ra] 24) := ⟨_, rfl⟩; rw [← hwa]; have Hr : Hid (wa.heap[w.heap.size]? = some (.cells #[.slice p.a1 q.ws.length p.c1, .slice p.a2 q.ls.length p.c2, .slice p.a3 q.ss.length p.c3, .int .i64 q.le, .int .i64 q.ra] 24 (0, 0))) := Lib.hid (by rw [hwa]; exact heap_alloc_new w _); have Hba : Hid (Below w.heap.size w wa) := Lib.hid (by rw [hwa]; exact (by repeat' (first | with_reducible exact Below.refl _ _ | with_reducible refine below_drewN ?_ _ | with_reducible refine Below.drew ?_ | with_reducible refine Below.alloc ?_ ?_ _ | with_reducible refine Below.setCell ?_ ?_ _ | with_reducible refine Below.trans ?_ (Below.mono (by with_reducible assumption) ?_) | (simp; done) | (simp; omega) | omega))); have hl : w.heap.size < wa.heap.size := (by rw [hwa]; simp); clear hwa
  have HA := Lib.hid (hA.below Hba.out)
  have HL := Lib.hid (hL.below Hba.out)
  clear hA hL
  have p0 := cell_of_row wa w.heap.size 0 _ _ _ (((Below.refl wa.heap.size wa).block _ hl).trans Hr.out); have p1 := cell_of_row wa w.heap.size 1 _ _ _ (((Below.refl wa.heap.size wa).block _ hl).trans Hr.out); have p2 := cell_of_row wa w.heap.size 2 _ _ _ (((Below.refl wa.heap.size wa).block _ hl).trans Hr.out); have p3 := cell_of_row wa w.heap.size 3 _ _ _ (((Below.refl wa.heap.size wa).block _ hl).trans Hr.out); have p4 := cell_of_row wa w.heap.size 4 _ _ _ (((Below.refl wa.heap.size wa).block _ hl).trans Hr.out)
  have HC := Lib.hid (checkR_any p q wa HA.out)
  generalize checkP q = cq at *
  go_wp2_with fail
  refine HC.out.mono ?_
  rintro e w1 ⟨rfl, hb1⟩
  have Hb1 := Lib.hid hb1
  have hs1 := hb1.size
  clear p0 p1 p2 p3 p4 HC hb1
  by_cases hc : cq = 0
  · subst hc
    obtain ⟨n, hn⟩ : ∃ n, l.length = n := ⟨_, rfl⟩
    have Hn := Lib.hid hn
    rw [hn] at Hv HL ⊢
    clear hn
    by_cases hbig : 60 < n
    · have hbig' : (60 : Int) < (n : Int) := by omega
      have Hres : Hid (res = 1) := Lib.hid (by rw [Hv.out, if_neg (by simp), if_pos hbig])
      go_wp2
      go_ret
      exact ⟨by rw [Hres.out]; rfl, (have hba := Hba.out.trans (Hb1.out.mono (Nat.le_of_lt hl)); (by repeat' (first | with_reducible exact Below.refl _ _ | with_reducible assumption | with_reducible refine below_drewN ?_ _ | with_reducible refine Below.drew ?_ | with_reducible refine Below.alloc ?_ ?_ _ | with_reducible refine Below.setCell ?_ ?_ _ | with_reducible refine Below.trans ?_ (Below.mono (by with_reducible assumption) ?_) | with_reducible refine below_only ?_ (by with_reducible assumption) ?_ ?_ | (simp; done) | (simp; omega) | omega)))⟩
    have hbig' : ¬ (60 : Int) < (n : Int) := by omega
    have Hres : Hid (res = firstE (unitE q (uns l)) n) := Lib.hid (by rw [Hv.out, if_neg (by simp), if_neg hbig])
    clear Hv
    go_upto_region 6 with fail
    go_wp2_with fail
    go_loopw [6] (fun i wr => ∃ k : Nat, k ≤ n ∧ i = .int .i64 (k : Int) ∧ Hid (firstE (unitE q (uns l)) k = 0) ∧ Below wa.heap.size wa wr) (fun i _ => n - (intOf i).toNat)
    case atStart => exact ⟨0, Nat.zero_le _, rfl, Lib.hid rfl, Hb1.out⟩
    case round =>
      obtain ⟨k, hk, rfl, Hz, hbw⟩ := hrel
      have Hbw := Lib.hid hbw
      have hsw := hbw.size
      by_cases hkn : k < n
      · have hkn' : (k : Int) < (n : Int) := by omega
        have hkl : k < l.length := by have := Hn.out; omega
        obtain ⟨b, off, hAe, hb, g0, g1, hfit⟩ := (HL.out.below hbw).at k hkl
        have Hfit := Lib.hid hfit
        have Hf1 := Lib.hid (fun h => unitE_farm (q := q) hkl h)
        have Hf2 := Lib.hid (fun j hj hjl h h2 => unitE_unit (q := q) (j := j) hkl hj hjl h h2)
        have Hf3 := Lib.hid (fun h h2 => unitE_fact (q := q) hkl h h2)
        have Hhit : Hid (unitE q (uns l) k ≠ 0 → res = unitE q (uns l) k) := Lib.hid (fun h => by rw [Hres.out]; exact firstE_hit hkn Hz.out h)
        have Hnx : Hid (unitE q (uns l) k = 0 → firstE (unitE q (uns l)) (k + 1) = 0) := Lib.hid (fun h => by rw [firstE_succ Hz.out]; exact h)
        have Hprev : Hid (∀ j (hj : j < l.length), wr.cell? ⟨b, off + j * 2, none⟩ = some (.int .i64 l[j].1.fm)) := Lib.hid (fun j hj => by
          obtain ⟨b', off', hAe', _, x0, _⟩ := (HL.out.below hbw).at j hj
          have := hAe.symm.trans hAe'
          injection this with h
          injection h with ha hb2
          subst ha hb2
          exact x0)
        generalize unitE q (uns l) k = ue at *
        obtain ⟨xx, hxx⟩ : ∃ xx, l[k] = xx := ⟨_, rfl⟩
        rw [hxx] at g0 g1 Hfit Hf1 Hf2 Hf3
        clear hxx hfit hkl
        obtain ⟨u, v⟩ := xx
        dsimp only at g0 g1 Hfit Hf1 Hf2 Hf3
        subst hAe
        -- ROUND
        have dd0 : decide ((k : Int) < (n : Int)) = true := decide_eq_true hkn'
        cases hob : outP 1 60 u.fm with
        | true =>
          have Hres2 : Hid (res = 74) := Lib.hid (by rw [Hhit.out (by rw [Hf1.out hob]; simp), Hf1.out hob])
          clear Hf1 Hf2 Hf3 Hhit Hnx Hprev
          by_cases ho1 : u.fm < 1
          · have ho1d : decide (u.fm < 1) = true := decide_eq_true ho1
            go_wp2
            go_ret
            exact ⟨by rw [Hres2.out]; rfl, (have hba := Hba.out.trans (Hbw.out.mono (Nat.le_of_lt hl)); (by repeat' (first | with_reducible exact Below.refl _ _ | with_reducible assumption | with_reducible refine below_drewN ?_ _ | with_reducible refine Below.drew ?_ | with_reducible refine Below.alloc ?_ ?_ _ | with_reducible refine Below.setCell ?_ ?_ _ | with_reducible refine Below.trans ?_ (Below.mono (by with_reducible assumption) ?_) | with_reducible refine below_only ?_ (by with_reducible assumption) ?_ ?_ | (simp; done) | (simp; omega) | omega)))⟩
          · have ho1d : decide (u.fm < 1) = false := decide_eq_false ho1
            have ho2 : 60 < u.fm := by simp [outP, ho1] at hob; exact hob
            have ho2d : decide (60 < u.fm) = true := decide_eq_true ho2
            go_wp2
            go_ret
            exact ⟨by rw [Hres2.out]; rfl, (have hba := Hba.out.trans (Hbw.out.mono (Nat.le_of_lt hl)); (by repeat' (first | with_reducible exact Below.refl _ _ | with_reducible assumption | with_reducible refine below_drewN ?_ _ | with_reducible refine Below.drew ?_ | with_reducible refine Below.alloc ?_ ?_ _ | with_reducible refine Below.setCell ?_ ?_ _ | with_reducible refine Below.trans ?_ (Below.mono (by with_reducible assumption) ?_) | with_reducible refine below_only ?_ (by with_reducible assumption) ?_ ?_ | (simp; done) | (simp; omega) | omega)))⟩
        | false =>
          have ho1 : ¬ u.fm < 1 := by simp [outP] at hob; omega
          have ho1d : decide (u.fm < 1) = false := decide_eq_false ho1
          have ho2 : ¬ 60 < u.fm := by simp [outP] at hob; omega
          have ho2d : decide (60 < u.fm) = false := decide_eq_false ho2
          clear Hf1
          go_upto_region 11 with fail
          rcases Nat.eq_zero_or_pos k with h0 | h0
          · have hk0 : ¬ (0 : Int) < (k : Int) := by omega
            have hk0d : decide ((0 : Int) < (k : Int)) = false := decide_eq_false hk0
            have HNP : ∀ j (hj : j < l.length), k = j + 1 → ¬ u.fm ≤ l[j].1.fm := by intro j _ h; omega
            have hk0n : ¬ 0 < k := by omega
            have hk0nd : decide (0 < k) = false := decide_eq_false hk0n
            have H0 := Lib.hid h0
            clear h0
            go_quiet (fail)
            have Hfc := Hf3.out hob (fun j hj hk => by have := HNP j hj hk; omega)
            cases hfb : factB q u with
            | true =>
              have Hz2 := Lib.hid (Hnx.out (by rw [Hfc, hfb]; rfl))
              have HFx := Lib.hid (fun W (hW : Below wr.heap.size wr W) => factorsR_any p q v u W (Hfit.out.below hW))
              rw [hfb] at HFx
              clear Hf2 Hf3 Hhit Hnx Hprev Hfc hfb HNP
              go_upto_region 13 with fail
              have hlw : w.heap.size < wr.heap.size := Nat.lt_of_lt_of_le hl hsw
              have q0 := cell_of_row wr w.heap.size 0 _ _ _ ((Hbw.out.block _ hl).trans Hr.out)
              have q1 := cell_of_row wr w.heap.size 1 _ _ _ ((Hbw.out.block _ hl).trans Hr.out)
              have q2 := cell_of_row wr w.heap.size 2 _ _ _ ((Hbw.out.block _ hl).trans Hr.out)
              have q3 := cell_of_row wr w.heap.size 3 _ _ _ ((Hbw.out.block _ hl).trans Hr.out)
              have q4 := cell_of_row wr w.heap.size 4 _ _ _ ((Hbw.out.block _ hl).trans Hr.out)
              go_wp2_with fail
              refine wp_region_below (W := wr.drewN _) wr.heap.size (by simp) (by kernel_rfl) (by kernel_rfl) ?_
              intro I _ F hFc hFb hFs
              repeat (go_big_quiet_step ((first
                | (go_at_call 39; exact class_call hFb hFs (by simp) (HFx.out _ ((below_drewN (Below.refl _ _) _).trans (hFb _)))))))
              refine wpQuiet_nil ?_
              rintro _ ⟨iq, rfl⟩
              have Hb3 : Hid (Below wr.heap.size wr (F iq)) := Lib.hid ((below_drewN (Below.refl _ _) _).trans (hFb iq))
              go_wp2
              go_roundw
              case rel => exact ⟨k + 1, by omega, by go_num, Hz2, (have hba := Hbw.out; have hbb := Hb3.out.mono hsw; (by repeat' (first | with_reducible exact Below.refl _ _ | with_reducible assumption | with_reducible refine below_drewN ?_ _ | with_reducible refine Below.drew ?_ | with_reducible refine Below.alloc ?_ ?_ _ | with_reducible refine Below.setCell ?_ ?_ _ | with_reducible refine Below.trans ?_ (Below.mono (by with_reducible assumption) ?_) | with_reducible refine below_only ?_ (by with_reducible assumption) ?_ ?_ | (simp; done) | (simp; omega) | omega)))⟩
              case measure => simp [intOf]; omega
            | false =>
              have Hres2 : Hid (res = 64) := Lib.hid (by rw [Hhit.out (by rw [Hfc, hfb]; simp), Hfc, hfb]; rfl)
              have HFx := Lib.hid (fun W (hW : Below wr.heap.size wr W) => factorsR_any p q v u W (Hfit.out.below hW))
              rw [hfb] at HFx
              clear Hf2 Hf3 Hhit Hnx Hprev Hfc hfb HNP
              go_upto_region 13 with fail
              have hlw : w.heap.size < wr.heap.size := Nat.lt_of_lt_of_le hl hsw
              have q0 := cell_of_row wr w.heap.size 0 _ _ _ ((Hbw.out.block _ hl).trans Hr.out)
              have q1 := cell_of_row wr w.heap.size 1 _ _ _ ((Hbw.out.block _ hl).trans Hr.out)
              have q2 := cell_of_row wr w.heap.size 2 _ _ _ ((Hbw.out.block _ hl).trans Hr.out)
              have q3 := cell_of_row wr w.heap.size 3 _ _ _ ((Hbw.out.block _ hl).trans Hr.out)
              have q4 := cell_of_row wr w.heap.size 4 _ _ _ ((Hbw.out.block _ hl).trans Hr.out)
              go_wp2_with fail
              refine wp_region_below (W := wr.drewN _) wr.heap.size (by simp) (by kernel_rfl) (by kernel_rfl) ?_
              intro I _ F hFc hFb hFs
              repeat (go_big_quiet_step ((first
                | (go_at_call 39; exact class_call hFb hFs (by simp) (HFx.out _ ((below_drewN (Below.refl _ _) _).trans (hFb _)))))))
              refine wpQuiet_nil ?_
              rintro _ ⟨iq, rfl⟩
              have Hb3 : Hid (Below wr.heap.size wr (F iq)) := Lib.hid ((below_drewN (Below.refl _ _) _).trans (hFb iq))
              go_wp2
              go_ret
              exact ⟨by rw [Hres2.out]; rfl, (have hba := Hba.out.trans (Hbw.out.mono (Nat.le_of_lt hl)); have hbb := Hb3.out.mono (Nat.le_trans (Nat.le_of_lt hl) hsw); (by repeat' (first | with_reducible exact Below.refl _ _ | with_reducible assumption | with_reducible refine below_drewN ?_ _ | with_reducible refine Below.drew ?_ | with_reducible refine Below.alloc ?_ ?_ _ | with_reducible refine Below.setCell ?_ ?_ _ | with_reducible refine Below.trans ?_ (Below.mono (by with_reducible assumption) ?_) | with_reducible refine below_only ?_ (by with_reducible assumption) ?_ ?_ | (simp; done) | (simp; omega) | omega)))⟩
          · obtain ⟨j, hj⟩ : ∃ j, k = j + 1 := ⟨k - 1, by omega⟩
            have hjl : j < l.length := by have := Hn.out; omega
            have hk0 : (0 : Int) < (k : Int) := by omega
            have hk0d : decide ((0 : Int) < (k : Int)) = true := decide_eq_true hk0
            have hk0nd : decide (0 < k) = true := decide_eq_true h0
            have ej : IntKind.i64.wrap ((k : Int) - 1) = (j : Int) := by rw [IntWalk.i64_in _ (by omega)]; omega
            have hjn' : (j : Int) < (n : Int) := by omega
            have gj := Hprev.out j hjl
            have Hf2j := Lib.hid (Hf2.out j hj hjl hob)
            have HNP : Hid (¬ u.fm ≤ l[j].1.fm → ∀ i (hi : i < l.length), k = i + 1 → ¬ u.fm ≤ l[i].1.fm) := Lib.hid (by
              intro h i hi hki
              obtain rfl : i = j := by omega
              exact h)
            generalize l[j].1.fm = pf at *
            have Hj := Lib.hid hj
            clear hj
            by_cases hle : u.fm ≤ pf
            · have Hres2 : Hid (res = 65) := Lib.hid (by rw [Hhit.out (by rw [Hf2j.out hle]; simp), Hf2j.out hle])
              have hled : decide (u.fm ≤ pf) = true := decide_eq_true hle
              clear Hf2 Hf3 Hhit Hnx Hprev Hf2j HNP
              go_quiet (fail)
              go_wp2
              go_ret
              exact ⟨by rw [Hres2.out]; rfl, (have hba := Hba.out.trans (Hbw.out.mono (Nat.le_of_lt hl)); (by repeat' (first | with_reducible exact Below.refl _ _ | with_reducible assumption | with_reducible refine below_drewN ?_ _ | with_reducible refine Below.drew ?_ | with_reducible refine Below.alloc ?_ ?_ _ | with_reducible refine Below.setCell ?_ ?_ _ | with_reducible refine Below.trans ?_ (Below.mono (by with_reducible assumption) ?_) | with_reducible refine below_only ?_ (by with_reducible assumption) ?_ ?_ | (simp; done) | (simp; omega) | omega)))⟩
            · have HNP := HNP.out hle
              have hled : decide (u.fm ≤ pf) = false := decide_eq_false hle
              clear Hf2j
              go_quiet (fail)
              have Hfc := Hf3.out hob (fun j hj hk => by have := HNP j hj hk; omega)
              cases hfb : factB q u with
              | true =>
                have Hz2 := Lib.hid (Hnx.out (by rw [Hfc, hfb]; rfl))
                have HFx := Lib.hid (fun W (hW : Below wr.heap.size wr W) => factorsR_any p q v u W (Hfit.out.below hW))
                rw [hfb] at HFx
                clear Hf2 Hf3 Hhit Hnx Hprev Hfc hfb HNP
                go_upto_region 13 with fail
                have hlw : w.heap.size < wr.heap.size := Nat.lt_of_lt_of_le hl hsw
                have q0 := cell_of_row wr w.heap.size 0 _ _ _ ((Hbw.out.block _ hl).trans Hr.out)
                have q1 := cell_of_row wr w.heap.size 1 _ _ _ ((Hbw.out.block _ hl).trans Hr.out)
                have q2 := cell_of_row wr w.heap.size 2 _ _ _ ((Hbw.out.block _ hl).trans Hr.out)
                have q3 := cell_of_row wr w.heap.size 3 _ _ _ ((Hbw.out.block _ hl).trans Hr.out)
                have q4 := cell_of_row wr w.heap.size 4 _ _ _ ((Hbw.out.block _ hl).trans Hr.out)
                go_wp2_with fail
                refine wp_region_below (W := wr.drewN _) wr.heap.size (by simp) (by kernel_rfl) (by kernel_rfl) ?_
                intro I _ F hFc hFb hFs
                repeat (go_big_quiet_step ((first
                  | (go_at_call 39; exact class_call hFb hFs (by simp) (HFx.out _ ((below_drewN (Below.refl _ _) _).trans (hFb _)))))))
                refine wpQuiet_nil ?_
                rintro _ ⟨iq, rfl⟩
                have Hb3 : Hid (Below wr.heap.size wr (F iq)) := Lib.hid ((below_drewN (Below.refl _ _) _).trans (hFb iq))
                go_wp2
                go_roundw
                case rel => exact ⟨k + 1, by omega, by go_num, Hz2, (have hba := Hbw.out; have hbb := Hb3.out.mono hsw; (by repeat' (first | with_reducible exact Below.refl _ _ | with_reducible assumption | with_reducible refine below_drewN ?_ _ | with_reducible refine Below.drew ?_ | with_reducible refine Below.alloc ?_ ?_ _ | with_reducible refine Below.setCell ?_ ?_ _ | with_reducible refine Below.trans ?_ (Below.mono (by with_reducible assumption) ?_) | with_reducible refine below_only ?_ (by with_reducible assumption) ?_ ?_ | (simp; done) | (simp; omega) | omega)))⟩
                case measure => simp [intOf]; omega
              | false =>
                have Hres2 : Hid (res = 64) := Lib.hid (by rw [Hhit.out (by rw [Hfc, hfb]; simp), Hfc, hfb]; rfl)
                have HFx := Lib.hid (fun W (hW : Below wr.heap.size wr W) => factorsR_any p q v u W (Hfit.out.below hW))
                rw [hfb] at HFx
                clear Hf2 Hf3 Hhit Hnx Hprev Hfc hfb HNP
                go_upto_region 13 with fail
                have hlw : w.heap.size < wr.heap.size := Nat.lt_of_lt_of_le hl hsw
                have q0 := cell_of_row wr w.heap.size 0 _ _ _ ((Hbw.out.block _ hl).trans Hr.out)
                have q1 := cell_of_row wr w.heap.size 1 _ _ _ ((Hbw.out.block _ hl).trans Hr.out)
                have q2 := cell_of_row wr w.heap.size 2 _ _ _ ((Hbw.out.block _ hl).trans Hr.out)
                have q3 := cell_of_row wr w.heap.size 3 _ _ _ ((Hbw.out.block _ hl).trans Hr.out)
                have q4 := cell_of_row wr w.heap.size 4 _ _ _ ((Hbw.out.block _ hl).trans Hr.out)
                go_wp2_with fail
                refine wp_region_below (W := wr.drewN _) wr.heap.size (by simp) (by kernel_rfl) (by kernel_rfl) ?_
                intro I _ F hFc hFb hFs
                repeat (go_big_quiet_step ((first
                  | (go_at_call 39; exact class_call hFb hFs (by simp) (HFx.out _ ((below_drewN (Below.refl _ _) _).trans (hFb _)))))))
                refine wpQuiet_nil ?_
                rintro _ ⟨iq, rfl⟩
                have Hb3 : Hid (Below wr.heap.size wr (F iq)) := Lib.hid ((below_drewN (Below.refl _ _) _).trans (hFb iq))
                go_wp2
                go_ret
                exact ⟨by rw [Hres2.out]; rfl, (have hba := Hba.out.trans (Hbw.out.mono (Nat.le_of_lt hl)); have hbb := Hb3.out.mono (Nat.le_trans (Nat.le_of_lt hl) hsw); (by repeat' (first | with_reducible exact Below.refl _ _ | with_reducible assumption | with_reducible refine below_drewN ?_ _ | with_reducible refine Below.drew ?_ | with_reducible refine Below.alloc ?_ ?_ _ | with_reducible refine Below.setCell ?_ ?_ _ | with_reducible refine Below.trans ?_ (Below.mono (by with_reducible assumption) ?_) | with_reducible refine below_only ?_ (by with_reducible assumption) ?_ ?_ | (simp; done) | (simp; omega) | omega)))⟩
      · have hkn' : ¬ (k : Int) < (n : Int) := by omega
        have Hres2 : Hid (res = 0) := Lib.hid (by rw [Hres.out, show n = k by omega]; exact Hz.out)
        go_wp2
        go_ret
        exact ⟨by rw [Hres2.out]; rfl, (have hba := Hba.out.trans (Hbw.out.mono (Nat.le_of_lt hl)); (by repeat' (first | with_reducible exact Below.refl _ _ | with_reducible assumption | with_reducible refine below_drewN ?_ _ | with_reducible refine Below.drew ?_ | with_reducible refine Below.alloc ?_ ?_ _ | with_reducible refine Below.setCell ?_ ?_ _ | with_reducible refine Below.trans ?_ (Below.mono (by with_reducible assumption) ?_) | with_reducible refine below_only ?_ (by with_reducible assumption) ?_ ?_ | (simp; done) | (simp; omega) | omega)))⟩
  · have Hres : Hid (res = cq) := Lib.hid (by rw [Hv.out, if_pos hc])
    go_wp2
    go_ret
    exact ⟨by rw [Hres.out]; rfl, (have hba := Hba.out.trans (Hb1.out.mono (Nat.le_of_lt hl)); (by repeat' (first | with_reducible exact Below.refl _ _ | with_reducible assumption | with_reducible refine below_drewN ?_ _ | with_reducible refine Below.drew ?_ | with_reducible refine Below.alloc ?_ ?_ _ | with_reducible refine Below.setCell ?_ ?_ _ | with_reducible refine Below.trans ?_ (Below.mono (by with_reducible assumption) ?_) | with_reducible refine below_only ?_ (by with_reducible assumption) ?_ ?_ | (simp; done) | (simp; omega) | omega)))⟩
end Go.Proofs.Ytjmbdfoegnfpnaa
