/- Contract: Seed of the reference (draw). -/
import Derived.Test.YtbkkmgofjhaaoaaDW
namespace Go.Proofs.Ytbkkmgofjhaaoaa
open Go.RowKit
set_option linter.unusedVariables false
set_option linter.unusedSimpArgs false

theorem checkD_or (d : Dr) : checkD d = 0 ∨ checkD d = 22 := by
  unfold checkD
  split
  · split <;> simp
  · simp

set_option maxHeartbeats 4000000 in
set_option maxRecDepth 100000 in
theorem seedR_any (p : DV) (d : Dr) (w : World) (h : DrAt w p d) : Calls Try.prog 29 #[.agg #[.int .i64 d.st, .slice p.a1 d.se.length p.c1, .slice p.a2 d.sd.length p.c2, .slice p.a3 d.sx.length p.c3, .slice p.a4 d.rv.length p.c4]] w (SeedPost w (seedP d)) := by
  obtain ⟨i0, hi, hz0, hz1, hz2⟩ := info_parts Try.infoIn
  have H := Lib.hid h
  have H1 := Lib.hid (fun W (hW : Below w.heap.size w W) => checkR_any p d W (h.below hW))
  have Hs : Hid (seedP d = if usableD d 3 = 0 then (mixI (d.sx.foldl x64 0), silentP d.rv d.sx.length, 0) else (0, [], usableD d 3)) := Lib.hid rfl
  have Hu : Hid (usableD d 3 = if checkD d = 0 then (if d.st = 3 then 0 else 61) else checkD d) := Lib.hid rfl
  clear h
  rcases checkD_or d with hc | hc
  · by_cases h3 : d.st = 3
    · have hu : usableD d 3 = 0 := by rw [Hu.out, if_pos hc, if_pos h3]
      obtain ⟨x1, x2, x3, x4, x5, x6, x7⟩ := usable_lens hu
      have hn5 : d.sx.length ≤ 5 := by
        unfold checkD at hc
        split at hc
        · rename_i hf
          simp [formD] at hf
          omega
        · cases hc
      have e0 : seedP d = (mixI (d.sx.foldl x64 0), silentP d.rv d.sx.length, 0) := by rw [Hs.out, if_pos hu]
      rw [e0]
      obtain ⟨n, hn⟩ : ∃ n, d.sx.length = n := ⟨_, rfl⟩
      have Hn := Lib.hid hn
      have Hn4 : Hid (d.rv.length = n) := Lib.hid (by omega)
      have hn5' : n ≤ 5 := by omega
      have HC := Lib.hid hc
      have Hst := Lib.hid h3
      clear x1 x2 x3 x4 x5 x6 x7 e0 hu Hs hn hn5 Hu hc h3
      go_enter Try.func29, Try.ntmps29
      go_wp2_with (first
        | (go_at_call 16
           refine (H1.out _ (by repeat' (first | with_reducible exact Below.refl _ _ | with_reducible refine below_drewN ?_ _ | with_reducible refine Below.drew ?_ | with_reducible refine Below.alloc ?_ ?_ _ | with_reducible refine Below.setCell ?_ ?_ _ | with_reducible refine Below.trans ?_ (Below.mono (by with_reducible assumption) ?_) | (simp; done) | (simp; omega) | omega))).mono ?_
           rintro e w1 ⟨rfl, hb1⟩
           rw [HC.out]
           have hr1 : w1.heap[w.heap.size]? = some (.cells #[.int .i64 d.st, .slice p.a1 d.se.length p.c1, .slice p.a2 d.sd.length p.c2, .slice p.a3 d.sx.length p.c3, .slice p.a4 d.rv.length p.c4] 26 (0, 0)) := (hb1.block _ (by first | (simp; done) | (simp; omega))).trans (heap_alloc_new w _)
           have Hr1 := Lib.hid hr1
           have c10 : w1.cell? ⟨w.heap.size, 0, none⟩ = some (.int .i64 3) := by rw [← Hst.out]; exact cell_of_row w1 w.heap.size 0 _ _ _ hr1
           have hs1 : w.heap.size < w1.heap.size := (by have := hb1.size; simp at this; omega)
           have Hb1 : Hid (Below w.heap.size w w1) := Lib.hid (show Below w.heap.size w w1 from (by have hbq := hb1; exact (by repeat' (first | with_reducible exact Below.refl _ _ | with_reducible assumption | with_reducible refine below_drewN ?_ _ | with_reducible refine Below.drew ?_ | with_reducible refine Below.alloc ?_ ?_ _ | with_reducible refine Below.setCell ?_ ?_ _ | with_reducible refine Below.trans ?_ (Below.mono (by with_reducible assumption) ?_) | with_reducible refine below_only ?_ (by with_reducible assumption) ?_ ?_ | (simp; done) | (simp; omega) | omega))))
           clear hb1 hr1)
        | fail)
      clear c10
      go_loopw [5, 6, 7] (fun a v i wr => ∃ k : Nat, k ≤ n ∧ i = .int .i64 (k : Int) ∧ a = .int .u64 ((d.sx.take k).foldl x64 0) ∧ wr.ownsRow w1.heap.size 3 1 v (silentP d.rv k).length ((silentP d.rv k).map (.int .i64)) ∧ Below w1.heap.size w1 wr) (fun _ _ i _ => n - (intOf i).toNat)
      case atStart => exact ⟨0, Nat.zero_le _, rfl, rfl, by show w1.ownsRow w1.heap.size 3 1 (.slice none 0 0) 0 []; exact World.ownsRow_nil _ _ _ _, Below.refl _ _⟩
      case round =>
        obtain ⟨k, hk, rfl, rfl, hown, hbw⟩ := hrel
        have hsw := hbw.size
        have Hown := Lib.hid hown
        have Hbw := Lib.hid hbw
        have hrw := (hbw.block _ hs1).trans Hr1.out
        have z3 := cell_of_row wr w.heap.size 3 _ _ _ hrw
        rw [Hn.out] at z3
        have z4 := cell_of_row wr w.heap.size 4 _ _ _ hrw
        have HB := Lib.hid (Hb1.out.trans (hbw.mono (Nat.le_of_lt hs1)))
        clear hown hrw
        by_cases hkn : k < n
        · have l3 : k < d.sx.length := by have := Hn.out; omega
          have l4 : k < d.rv.length := by have := Hn4.out; omega
          obtain ⟨b3, o3, e3, hb3, c3⟩ := (H.out.s3.below HB.out).at k l3
          obtain ⟨b4, o4, e4, hb4, c4⟩ := (H.out.s4.below HB.out).at k l4
          have Hf := Lib.hid (fold_succ d.sx k l3)
          have Hsi := Lib.hid (silent_succ d.rv k l4)
          have hsl := silent_len d.rv k
          rw [e3] at z3
          rw [e4] at z4
          have h4l : (k : Int) < (d.rv.length : Int) := by omega
          have hkn' : (k : Int) < (n : Int) := by omega
          generalize d.sx[k] = sv at *
          generalize silentP d.rv k = sl at *
          obtain ⟨acc, hacc⟩ : ∃ acc, (d.sx.take k).foldl x64 0 = acc := ⟨_, rfl⟩
          rw [hacc] at Hf ⊢
          have Hx : Hid (bits BinOp.xor IntKind.u64 acc sv = x64 acc sv) := Lib.hid rfl
          clear hbw e3 e4 hacc
          cases hrv : d.rv[k] with
          | true =>
            rw [hrv] at c4 Hsi
            clear hrv
            go_wp2
            go_roundw
            case rel => exact ⟨k + 1, by omega, by go_num, by rw [Hf.out]; rfl, by rw [Hsi.out]; exact Hown.out, Hbw.out⟩
            case measure => simp [intOf]; omega
          | false =>
            rw [hrv] at c4 Hsi
            clear hrv
            go_wp2_with (first
              | (at_builtin
                 refine wpList_append_any _ rfl (.tmp 34) (.tmp 36) _ rfl w1.heap.size 3 i0 _ 1 8 Try.underlying22 hi hz0 hz1 hz2 rfl (by omega) _ sl.length (sl.map (.int .i64)) rfl
                   (Hown.out.alloc _) _ _ 1 1 [.int .i64 (k : Int)] rfl ⟨rfl, fun _ => ⟨_, rfl, Nat.lt_succ_self _, fun j u hu => World.news_of_block (heap_alloc_new wr (.cells #[.int .i64 (k : Int)] 3)) j u hu⟩⟩ (by simp [Value.oneCell']) (by simp only [maxLen]; omega) (by omega) (by simp; omega) ?_
                 intro v5 w5 hown5 hg5 hat5)
              | fail)
            go_roundw
            case rel =>
              refine ⟨k + 1, by omega, by go_num, by rw [Hf.out]; rfl, ?_, Below.grown (Hbw.out.alloc hsw _) hg5 (by simp; omega) (own_base Hown.out)⟩
              rw [Hsi.out, if_neg (by simp), List.length_append, List.map_append]
              exact hown5
            case measure => simp [intOf]; omega
        · have hkk : k = n := by omega
          have hkn' : ¬ (k : Int) < (n : Int) := by omega
          have Hm := Lib.hid (fun W => mixR_any ((d.sx.take k).foldl x64 0) W)
          rw [show (d.sx.take k) = d.sx from List.take_of_length_le (by have := Hn.out; omega)] at Hm ⊢
          rw [hkk] at Hown
          generalize d.sx.foldl x64 0 = acc at *
          generalize mixI acc = mx at *
          clear hbw
          go_wp2_with (first | (go_at_call 32; refine (Hm.out _).mono ?_; rintro e w2 ⟨rfl, rfl⟩) | fail)
          refine bodyPost_ret (v := .tuple #[.int .u64 mx, u6, .int .i64 0]) (by simp [results, Try.results29, go_sem, *]) rfl ?_
          exact ⟨_, rfl, by show w2.ownsRow _ _ _ _ (silentP d.rv d.sx.length).length _; rw [Hn.out]; exact own_rebase Hown.out (Nat.le_of_lt hs1), HB.out⟩
    · have hu : usableD d 3 = 61 := by rw [Hu.out, if_pos hc, if_neg h3]
      have e0 : seedP d = (0, [], 61) := by rw [Hs.out, hu, if_neg (by omega)]
      rw [e0]
      have HC := Lib.hid hc
      clear e0 Hs hu Hu hc
      go_enter Try.func29, Try.ntmps29
      go_wp2_with (first
        | (go_at_call 16
           refine (H1.out _ (by repeat' (first | with_reducible exact Below.refl _ _ | with_reducible refine below_drewN ?_ _ | with_reducible refine Below.drew ?_ | with_reducible refine Below.alloc ?_ ?_ _ | with_reducible refine Below.setCell ?_ ?_ _ | with_reducible refine Below.trans ?_ (Below.mono (by with_reducible assumption) ?_) | (simp; done) | (simp; omega) | omega))).mono ?_
           rintro e w1 ⟨rfl, hb1⟩
           rw [HC.out]
           have hr1 : w1.heap[w.heap.size]? = some (.cells #[.int .i64 d.st, .slice p.a1 d.se.length p.c1, .slice p.a2 d.sd.length p.c2, .slice p.a3 d.sx.length p.c3, .slice p.a4 d.rv.length p.c4] 26 (0, 0)) := (hb1.block _ (by first | (simp; done) | (simp; omega))).trans (heap_alloc_new w _)
           have c10 := cell_of_row w1 w.heap.size 0 _ _ _ hr1
           have hs1 : w.heap.size < w1.heap.size := (by have := hb1.size; simp at this; omega)
           have Hb1 : Hid (Below w.heap.size w w1) := Lib.hid (show Below w.heap.size w w1 from (by have hbq := hb1; exact (by repeat' (first | with_reducible exact Below.refl _ _ | with_reducible assumption | with_reducible refine below_drewN ?_ _ | with_reducible refine Below.drew ?_ | with_reducible refine Below.alloc ?_ ?_ _ | with_reducible refine Below.setCell ?_ ?_ _ | with_reducible refine Below.trans ?_ (Below.mono (by with_reducible assumption) ?_) | with_reducible refine below_only ?_ (by with_reducible assumption) ?_ ?_ | (simp; done) | (simp; omega) | omega))))
           clear hb1 hr1)
        | fail)
      refine bodyPost_ret (v := .tuple #[.int .u64 0, .slice none 0 0, .int .i64 61]) (by simp [results, Try.results29, go_sem, *]) rfl ?_
      exact ⟨_, rfl, World.ownsRow_nil _ _ _ _, Hb1.out⟩
  · have hu : usableD d 3 = 22 := by rw [Hu.out, hc, if_neg (by omega)]
    have e0 : seedP d = (0, [], 22) := by rw [Hs.out, hu, if_neg (by omega)]
    rw [e0]
    have HC := Lib.hid hc
    clear e0 Hs hu Hu hc
    go_enter Try.func29, Try.ntmps29
    go_wp2_with (first
      | (go_at_call 16
         refine (H1.out _ (by repeat' (first | with_reducible exact Below.refl _ _ | with_reducible refine below_drewN ?_ _ | with_reducible refine Below.drew ?_ | with_reducible refine Below.alloc ?_ ?_ _ | with_reducible refine Below.setCell ?_ ?_ _ | with_reducible refine Below.trans ?_ (Below.mono (by with_reducible assumption) ?_) | (simp; done) | (simp; omega) | omega))).mono ?_
         rintro e w1 ⟨rfl, hb1⟩
         rw [HC.out]
         have Hb1 : Hid (Below w.heap.size w w1) := Lib.hid (show Below w.heap.size w w1 from (by have hbq := hb1; exact (by repeat' (first | with_reducible exact Below.refl _ _ | with_reducible assumption | with_reducible refine below_drewN ?_ _ | with_reducible refine Below.drew ?_ | with_reducible refine Below.alloc ?_ ?_ _ | with_reducible refine Below.setCell ?_ ?_ _ | with_reducible refine Below.trans ?_ (Below.mono (by with_reducible assumption) ?_) | with_reducible refine below_only ?_ (by with_reducible assumption) ?_ ?_ | (simp; done) | (simp; omega) | omega))))
         clear hb1)
      | fail)
    refine bodyPost_ret (v := .tuple #[.int .u64 0, .slice none 0 0, .int .i64 22]) (by simp [results, Try.results29, go_sem, *]) rfl ?_
    exact ⟨_, rfl, World.ownsRow_nil _ _ _ _, Hb1.out⟩
end Go.Proofs.Ytbkkmgofjhaaoaa
