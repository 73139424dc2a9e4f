/- Contract: Sample (draw). -/
import Derived.Test.YtjmbdfoegnfpnaaDU
namespace Go.Proofs.Ytjmbdfoegnfpnaa
open Go.RowKit
set_option linter.unusedVariables false
set_option linter.unusedSimpArgs false

theorem Sl.take {w : World} {A : Option Addr} {c : Nat} {α : Type} {f : α → Value} {l : List α} (h : Sl w A c (l.map f)) (j : Nat) : Sl w A c ((l.take j).map f) := by
  refine ⟨?_, h.top, ?_⟩
  · have := h.cap
    rw [List.length_map] at this
    rw [List.length_map, List.length_take]
    omega
  · rcases h.lies with h0 | ⟨b, off, e, hb, hc⟩
    · left
      rw [List.length_map] at h0
      rw [List.length_map, List.length_take]
      omega
    · exact .inr ⟨b, off, e, hb, fun i u hu => hc i u (by
        rw [List.getElem?_map, List.getElem?_take] at hu
        rw [List.getElem?_map]
        split at hu
        · exact hu
        · cases hu)⟩
theorem any_false_succ {p : Nat → Bool} {j : Nat} (h : (List.range j).any p = false) (hp : p j = false) : (List.range (j + 1)).any p = false := by
  rw [any_range_succ, h, hp]; rfl

set_option maxHeartbeats 4000000 in
set_option maxRecDepth 100000 in
theorem sample_any (s : Int) (A : Option Addr) (c : Nat) (l : List Int) (k : Int) (w : World) (hA : Sl w A c (l.map (.int .i64))) :
    Calls Try.prog 41 #[.int .u64 s, .slice A l.length c, .int .i64 k] w (SamplePost w (sampleP s l k)) := by
  have HA := Lib.hid hA
  have HS : Hid (sampleP s l k = if 60 < l.length then ([], 1) else if (List.range l.length).any (badU l) then ([], 65) else if k < 0 ∨ (l.length : Int) < k then ([], 2) else (srt ((tickS s l).take k.toNat), 0)) := Lib.hid rfl
  clear hA
  obtain ⟨n, hn⟩ : ∃ n, l.length = n := ⟨_, rfl⟩
  have Hn := Lib.hid hn
  rw [hn] at HS ⊢
  clear hn
  by_cases hbig : 60 < n
  · have e0 : sampleP s l k = ([], 1) := by rw [HS.out, if_pos hbig]
    rw [e0]
    have hb' : (60 : Int) < (n : Int) := by omega
    clear e0 HS
    go_enter Try.func41, Try.ntmps41
    go_wp2
    refine bodyPost_ret (v := .tuple #[.slice none 0 0, .int .i64 1]) (by simp [results, Try.results41, go_sem, *]) rfl ?_
    exact ⟨_, rfl, World.ownsRow_nil _ _ _ _, (by repeat' (first | with_reducible exact Below.refl _ _ | with_reducible refine below_drewN ?_ _ | with_reducible refine Below.drew ?_ | with_reducible refine Below.alloc ?_ ?_ _ | with_reducible refine Below.setCell ?_ ?_ _ | with_reducible refine Below.trans ?_ (Below.mono (by with_reducible assumption) ?_) | (simp; done) | (simp; omega) | omega))⟩
  · have hb' : ¬ (60 : Int) < (n : Int) := by omega
    have HS2 : Hid (sampleP s l k = if (List.range n).any (badU l) then ([], 65) else if k < 0 ∨ (n : Int) < k then ([], 2) else (srt ((tickS s l).take k.toNat), 0)) := Lib.hid (by rw [HS.out, if_neg hbig])
    clear HS
    generalize sampleP s l k = res at *
    go_enter Try.func41, Try.ntmps41
    go_upto_region 4 with fail
    obtain ⟨w0, hw0⟩ : ∃ w0 : World, w0 = w.alloc (.cells #[.int .u64 s] 48) := ⟨_, rfl⟩
    rw [← hw0]
    have hr0 : w0.heap[w.heap.size]? = some (.cells #[.int .u64 s] 48 (0, 0)) := by rw [hw0]; exact heap_alloc_new w _
    have Hr0 := Lib.hid hr0
    have hs0 : w.heap.size < w0.heap.size := by rw [hw0]; simp
    have Hb0 : Hid (Below w.heap.size w w0) := Lib.hid (by rw [hw0]; exact (by repeat' (first | with_reducible exact Below.refl _ _ | with_reducible refine below_drewN ?_ _ | with_reducible refine Below.drew ?_ | with_reducible refine Below.alloc ?_ ?_ _ | with_reducible refine Below.setCell ?_ ?_ _ | with_reducible refine Below.trans ?_ (Below.mono (by with_reducible assumption) ?_) | (simp; done) | (simp; omega) | omega)))
    have HA0 : Hid (Sl w0 A c (l.map (.int .i64))) := Lib.hid (HA.out.below Hb0.out)
    clear hw0 hr0
    go_loop [8, 9, 17] (fun _ _ i => ∃ j : Nat, j ≤ n ∧ i = .int .i64 (j : Int) ∧ Hid ((List.range j).any (badU l) = false)) (fun _ _ i => n - (intOf i).toNat)
    case atStart => exact ⟨0, Nat.zero_le _, rfl, Lib.hid rfl⟩
    case round =>
      obtain ⟨j, hj, rfl, Hok⟩ := hrel
      by_cases hjn : j < n
      · have hjl : j < l.length := by have := Hn.out; omega
        obtain ⟨b, off, hAe, hb, c0⟩ := HA0.out.at j hjl
        have HAe := Lib.hid hAe
        have Hbad : Hid (badU l j = (decide (l[j] < 0) || decide (l[j] ∈ l.take j))) := Lib.hid (by simp [badU, List.getD_eq_getElem?_getD, hjl])
        have Hhit : Hid (badU l j = true → res = ([], 65)) := Lib.hid (fun hb => by
          rw [HS2.out, if_pos]
          rw [List.any_eq_true]
          exact ⟨j, by simp; omega, hb⟩)
        have Hc := Lib.hid (contains_any A j c (l.take j) l[j] w0 (HA0.out.take j) (by rw [List.length_take]; omega))
        rw [hAe] at Hc
        generalize l[j] = y at *
        have hjn' : (j : Int) < (n : Int) := by omega
        have hjc : j ≤ c := by have := HA0.out.cap; rw [List.length_map] at this; omega
        have hjc' : (j : Int) ≤ (c : Int) := by omega
        by_cases hy : y < 0
        · have hR := Hhit.out (by rw [Hbad.out]; simp [hy])
          subst hR
          subst hAe
          clear HS2 Hhit Hbad Hc
          go_wp2
          refine bodyPost_ret (v := .tuple #[.slice none 0 0, .int .i64 65]) (by simp [results, Try.results41, go_sem, *]) rfl ?_
          exact ⟨_, rfl, World.ownsRow_nil _ _ _ _, Hb0.out⟩
        · by_cases hm : y ∈ l.take j
          · have hR := Hhit.out (by rw [Hbad.out]; simp [hm])
            subst hR
            subst hAe
            have Hc2 : Hid (Calls Try.prog 52 #[.slice (some ⟨b, off, none⟩) j c, .int .i64 y] w0 fun e w' => e = .returned (.bool true) ∧ w' = w0) := Lib.hid (by have := Hc.out; rw [decide_eq_true hm] at this; exact this)
            clear HS2 Hhit Hbad Hc hm
            go_wp2_with (first | (go_at_call 52; refine Hc2.out.mono ?_; rintro e w1 ⟨rfl, rfl⟩) | fail)
            refine bodyPost_ret (v := .tuple #[.slice none 0 0, .int .i64 65]) (by simp [results, Try.results41, go_sem, *]) rfl ?_
            exact ⟨_, rfl, World.ownsRow_nil _ _ _ _, Hb0.out⟩
          · have Hok2 : Hid ((List.range (j + 1)).any (badU l) = false) := Lib.hid (any_false_succ Hok.out (by rw [Hbad.out]; simp [hy, hm]))
            subst hAe
            have Hc2 : Hid (Calls Try.prog 52 #[.slice (some ⟨b, off, none⟩) j c, .int .i64 y] w0 fun e w' => e = .returned (.bool false) ∧ w' = w0) := Lib.hid (by have := Hc.out; rw [decide_eq_false hm] at this; exact this)
            clear Hhit Hbad Hc hm
            go_wp2_with (first | (go_at_call 52; refine Hc2.out.mono ?_; rintro e w1 ⟨rfl, rfl⟩) | fail)
            go_round
            case rel => exact ⟨j + 1, by omega, by go_num, Hok2⟩
            case measure => simp [intOf]; omega
      · have hjn' : ¬ (j : Int) < (n : Int) := by omega
        have Hok2 : Hid ((List.range n).any (badU l) = false) := Lib.hid (by have := Hok.out; rwa [show j = n by omega] at this)
        have HS3 : Hid (res = if k < 0 ∨ (n : Int) < k then ([], 2) else (srt ((tickS s l).take k.toNat), 0)) := Lib.hid (by rw [HS2.out, Hok2.out]; rfl)
        clear HS2
        by_cases hk0 : k < 0
        · have hR : res = ([], 2) := by rw [HS3.out, if_pos (.inl hk0)]
          subst hR
          clear HS3
          go_wp2
          refine bodyPost_ret (v := .tuple #[.slice none 0 0, .int .i64 2]) (by simp [results, Try.results41, go_sem, *]) rfl ?_
          exact ⟨_, rfl, World.ownsRow_nil _ _ _ _, Hb0.out⟩
        · by_cases hkn : (n : Int) < k
          · have hR : res = ([], 2) := by rw [HS3.out, if_pos (.inr hkn)]
            subst hR
            clear HS3
            go_wp2
            refine bodyPost_ret (v := .tuple #[.slice none 0 0, .int .i64 2]) (by simp [results, Try.results41, go_sem, *]) rfl ?_
            exact ⟨_, rfl, World.ownsRow_nil _ _ _ _, Hb0.out⟩
          · obtain ⟨kn, rfl⟩ := Int.eq_ofNat_of_zero_le (show 0 ≤ k by omega)
            have hR : res = (srt ((tickS s l).take kn), 0) := by rw [HS3.out, if_neg (by omega)]; rfl
            subst hR
            have hkn1 : kn ≤ n := by omega
            have hkn2 : (kn : Int) ≤ (n : Int) := by omega
            have Hcl0 : Hid (Calls Try.prog 53 #[.slice A n c] w0 (OwnPost w0 3 (l.map (.int .i64)))) := Lib.hid (by have := cloneIn_any A c l w0 HA0.out (by have := Hn.out; omega); rw [Hn.out] at this; exact this)
            clear HS3
            go_wp2_with fail
            refine Hcl0.out.mono ?_
            rintro e w1 ⟨v1, rfl, hown1, hb1⟩
            rw [List.length_map, Hn.out] at hown1
            have hr1 := (hb1.block _ hs0).trans Hr0.out
            obtain ⟨D, dc, rfl, _, hdc, hdm⟩ := own_slice hown1
            have Hown1 := Lib.hid hown1
            have Hb1 := Lib.hid hb1
            have hs1 := hb1.size
            have Hsort := Lib.hid (sortT_own (l := l) s 48 w1 (by rw [Hn.out]; exact hown1) (by have := Hn.out; omega) hr1 (fun e => by have := own_base hown1 _ e; omega))
            clear hown1 hb1 hr1 Hcl0
            go_wp2_with fail
            refine Hsort.out.mono ?_
            rintro e w2 ⟨rfl, ss, hperm, hsorted, hown2, hg2⟩
            have hss : ss = tickS s l := tickS_eq s l ss hperm hsorted
            have hsl : ss.length = n := by rw [hperm.length_eq, Hn.out]
            subst hss
            rw [hsl] at hown2
            have Hown2 := Lib.hid hown2
            have Hb2 : Hid (Below w0.heap.size w0 w2) := Lib.hid (Below.grown Hb1.out hg2 hs1 (own_base Hown1.out))
            have hs2 := Hb2.out.size
            have HSl := Lib.hid ((Sl.of_own hown2 (by simp [hsl])).take kn)
            have hkl : ((tickS s l).take kn).length = kn := by rw [List.length_take]; omega
            have Hcl2 : Hid (Calls Try.prog 53 #[.slice D kn dc] w2 (OwnPost w2 3 (((tickS s l).take kn).map (.int .i64)))) := Lib.hid (by have := cloneIn_any D dc ((tickS s l).take kn) w2 HSl.out (by omega); rw [hkl] at this; exact this)
            have Hkl := Lib.hid hkl
            have hkd : kn ≤ dc := by omega
            have hkd' : (kn : Int) ≤ (dc : Int) := by omega
            clear hperm hsorted hown2 hg2 hsl hkl Hsort
            generalize (tickS s l).take kn = tl at *
            go_wp2_with fail
            refine Hcl2.out.mono ?_
            rintro e w3 ⟨v3, rfl, hown3, hb3⟩
            rw [List.length_map] at hown3
            have Hown3 := Lib.hid hown3
            have Hb3 := Lib.hid hb3
            have hs3 := hb3.size
            have Hsort3 := Lib.hid (sort_own w3 hown3 (by have := Hkl.out; omega))
            clear hown3 hb3 Hcl2
            go_wp2_with fail
            refine Hsort3.out.mono ?_
            rintro e w4 ⟨rfl, hown4, hg4⟩
            have Hown4 := Lib.hid hown4
            have Hb4 : Hid (Below w2.heap.size w2 w4) := Lib.hid (Below.grown Hb3.out hg4 hs3 (own_base Hown3.out))
            clear hown4 hg4 Hsort3
            go_wp2
            refine bodyPost_ret (v := .tuple #[v3, .int .i64 0]) (by simp [results, Try.results41, go_sem, *]) rfl ?_
            exact ⟨v3, rfl, by rw [srt_len]; exact own_rebase Hown4.out (by omega), Hb0.out.trans ((Hb2.out.trans (Hb4.out.mono hs2)).mono (by omega))⟩
end Go.Proofs.Ytjmbdfoegnfpnaa
