/- DrawNumbers: its walk. -/
import Derived.Test.YtbkkmgofjhaaoaaE1
import Derived.Test.YtbkkmgofjhaaoaaE3
import Derived.Test.YtbkkmgofjhaaoaaE9
namespace Go.Proofs.Ytbkkmgofjhaaoaa
open Go.RowKit
set_option linter.unusedVariables false
set_option linter.unusedSimpArgs false

theorem ints_same (E F : Option Addr) (ec fc : Nat) (l : List Int) (w : World) (hE : Sl w E ec (l.map (.int .i64))) (hF : Sl w F fc (l.map (.int .i64))) :
    Calls Try.prog 30 #[.slice E l.length ec, .slice F l.length fc] w fun e w' => e = .returned (.bool true) ∧ Below w.heap.size w w' := by
  have := ints_any E F l.length l.length ec fc l l w hE hF rfl rfl
  rwa [decide_eq_true rfl] at this
theorem tape_new (A : Option Addr) (n c : Nat) (zs : List Int) (w : World) (hn : zs.length = n) (hc : n ≤ c) (hm : c ≤ maxLen) (hw : ∀ z ∈ zs, (Lit.int .i64 z).wf = true) (hA : Lies w A n (zs.map (.int .i64))) :
    ∀ W, Below w.heap.size w W → Calls Try.prog 10 #[.slice A n c] W (NewPost W (zs.take 400)) := fun W hW => new_any A n c zs W hn hc hm hw (hA.below hW)
/-- An index of a list of two. -/
def Idx2 (i : Value) : Prop := i = .int .i64 0 ∨ i = .int .i64 1 ∨ i = .int .i64 2

set_option maxHeartbeats 8000000 in
set_option maxRecDepth 100000 in
theorem numbersLaw (A : Option Addr) (n c : Nat) (zs : List Int) (a b u : Int) (p : DV) (d : Dr) (w : World) (hn : zs.length = n) (hc : n ≤ c) (hm : c ≤ maxLen) (hw : ∀ z ∈ zs, (Lit.int .i64 z).wf = true) (hA : Lies w A n (zs.map (.int .i64))) (hd : DrAt w p d) (hu : -9223372036854775808 ≤ u ∧ u ≤ 9223372036854775807) :
    Calls Try.prog 4 #[.slice A n c, .int .u64 a, .int .u64 b, .int .i64 u, .agg #[.int .i64 d.st, .slice p.a1 d.se.length p.c1, .slice p.a2 d.sd.length p.c2, .slice p.a3 d.sx.length p.c3, .slice p.a4 d.rv.length p.c4]] w fun e w' => e = .returned (.bool true) ∧ Below w.heap.size w w' := by
  have HNew := Lib.hid (tape_new A n c zs w hn hc hm hw hA)
  have HD2 := Lib.hid hd
  obtain ⟨hu1, hu2⟩ := hu
  clear hw hA hd hn hm hc
  by_cases h1 : (8 : Int) < (d.se.length : Int)
  · go_enter Try.func4, Try.ntmps4
    go_wp2_with (first | (go_at_call 9; refine (awake_any _).mono ?_; rintro e w1 ⟨rfl, hb1⟩; have Hb1 : Hid (Below w.heap.size w w1) := Lib.hid (show Below w.heap.size w w1 from (by have hbq := hb1; exact (by repeat' (first | with_reducible exact Below.refl _ _ | with_reducible assumption | with_reducible refine below_drewN ?_ _ | with_reducible refine Below.drew ?_ | with_reducible refine Below.alloc ?_ ?_ _ | with_reducible refine Below.setCell ?_ ?_ _ | with_reducible refine Below.trans ?_ (Below.mono (by with_reducible assumption) ?_) | with_reducible refine below_only ?_ (by with_reducible assumption) ?_ ?_ | (simp; done) | (simp; omega) | omega)))); clear hb1) | fail)
    go_ret
    exact ⟨rfl, Hb1.out⟩
  by_cases h2 : (8 : Int) < (d.sd.length : Int)
  · go_enter Try.func4, Try.ntmps4
    go_wp2_with (first | (go_at_call 9; refine (awake_any _).mono ?_; rintro e w1 ⟨rfl, hb1⟩; have Hb1 : Hid (Below w.heap.size w w1) := Lib.hid (show Below w.heap.size w w1 from (by have hbq := hb1; exact (by repeat' (first | with_reducible exact Below.refl _ _ | with_reducible assumption | with_reducible refine below_drewN ?_ _ | with_reducible refine Below.drew ?_ | with_reducible refine Below.alloc ?_ ?_ _ | with_reducible refine Below.setCell ?_ ?_ _ | with_reducible refine Below.trans ?_ (Below.mono (by with_reducible assumption) ?_) | with_reducible refine below_only ?_ (by with_reducible assumption) ?_ ?_ | (simp; done) | (simp; omega) | omega)))); clear hb1) | fail)
    go_ret
    exact ⟨rfl, Hb1.out⟩
  by_cases h3 : (8 : Int) < (d.sx.length : Int)
  · go_enter Try.func4, Try.ntmps4
    go_wp2_with (first | (go_at_call 9; refine (awake_any _).mono ?_; rintro e w1 ⟨rfl, hb1⟩; have Hb1 : Hid (Below w.heap.size w w1) := Lib.hid (show Below w.heap.size w w1 from (by have hbq := hb1; exact (by repeat' (first | with_reducible exact Below.refl _ _ | with_reducible assumption | with_reducible refine below_drewN ?_ _ | with_reducible refine Below.drew ?_ | with_reducible refine Below.alloc ?_ ?_ _ | with_reducible refine Below.setCell ?_ ?_ _ | with_reducible refine Below.trans ?_ (Below.mono (by with_reducible assumption) ?_) | with_reducible refine below_only ?_ (by with_reducible assumption) ?_ ?_ | (simp; done) | (simp; omega) | omega)))); clear hb1) | fail)
    go_ret
    exact ⟨rfl, Hb1.out⟩
  by_cases h4 : (8 : Int) < (d.rv.length : Int)
  · go_enter Try.func4, Try.ntmps4
    go_wp2_with (first | (go_at_call 9; refine (awake_any _).mono ?_; rintro e w1 ⟨rfl, hb1⟩; have Hb1 : Hid (Below w.heap.size w w1) := Lib.hid (show Below w.heap.size w w1 from (by have hbq := hb1; exact (by repeat' (first | with_reducible exact Below.refl _ _ | with_reducible assumption | with_reducible refine below_drewN ?_ _ | with_reducible refine Below.drew ?_ | with_reducible refine Below.alloc ?_ ?_ _ | with_reducible refine Below.setCell ?_ ?_ _ | with_reducible refine Below.trans ?_ (Below.mono (by with_reducible assumption) ?_) | with_reducible refine below_only ?_ (by with_reducible assumption) ?_ ?_ | (simp; done) | (simp; omega) | omega)))); clear hb1) | fail)
    go_ret
    exact ⟨rfl, Hb1.out⟩
  have hfield := run_field
  have hsm : Hid d.small := Lib.hid (by unfold Dr.small; omega)
  go_enter Try.func4, Try.ntmps4
  go_wp2
  have hr0 := heap_alloc_new w (.cells #[.int .i64 d.st, .slice p.a1 d.se.length p.c1, .slice p.a2 d.sd.length p.c2, .slice p.a3 d.sx.length p.c3, .slice p.a4 d.rv.length p.c4] 26)
  have Hb0 : Hid (Below w.heap.size w (w.alloc (.cells #[.int .i64 d.st, .slice p.a1 d.se.length p.c1, .slice p.a2 d.sd.length p.c2, .slice p.a3 d.sx.length p.c3, .slice p.a4 d.rv.length p.c4] 26))) := Lib.hid (by repeat' (first | with_reducible exact Below.refl _ _ | with_reducible refine below_drewN ?_ _ | with_reducible refine Below.drew ?_ | with_reducible refine Below.alloc ?_ ?_ _ | with_reducible refine Below.setCell ?_ ?_ _ | with_reducible refine Below.trans ?_ (Below.mono (by with_reducible assumption) ?_) | (simp; done) | (simp; omega) | omega))
  generalize w.alloc (.cells #[.int .i64 d.st, .slice p.a1 d.se.length p.c1, .slice p.a2 d.sd.length p.c2, .slice p.a3 d.sx.length p.c3, .slice p.a4 d.rv.length p.c4] 26) = w0 at *
  have hs0 : w.heap.size < w0.heap.size := by
    rcases Nat.lt_or_ge w.heap.size w0.heap.size with h | h
    · exact h
    · rw [Array.getElem?_eq_none h] at hr0; cases hr0
  have c0 := cell_of_row w0 w.heap.size 0 _ _ _ hr0; have c1 := cell_of_row w0 w.heap.size 1 _ _ _ hr0; have c2 := cell_of_row w0 w.heap.size 2 _ _ _ hr0; have c3 := cell_of_row w0 w.heap.size 3 _ _ _ hr0; have c4 := cell_of_row w0 w.heap.size 4 _ _ _ hr0
  have Hr0 := Lib.hid hr0
  clear hr0
  go_region_held3 (fun w' => w'.cell? ⟨w.heap.size, 0, none⟩ = some (.int .i64 d.st) ∧ w'.cell? ⟨w.heap.size, 1, none⟩ = some (.slice p.a1 d.se.length p.c1) ∧ w'.cell? ⟨w.heap.size, 2, none⟩ = some (.slice p.a2 d.sd.length p.c2) ∧ w'.cell? ⟨w.heap.size, 3, none⟩ = some (.slice p.a3 d.sx.length p.c3) ∧ w'.cell? ⟨w.heap.size, 4, none⟩ = some (.slice p.a4 d.rv.length p.c4))
    (first | go_keep | ((repeat' apply And.intro) <;> go_keep))
    (first
      | (go_at_call 10
         refine (HNew.out _ (Below.drew Hb0.out)).mono ?_
         rintro e w1 ⟨g, rfl, hg1, ht1, hb1⟩
         have Ht1 := Lib.hid ht1
         have Hb1 : Hid (Below w0.heap.size w0 w1) := Lib.hid (show Below w0.heap.size w0 w1 from (by have hbq := hb1; exact (by repeat' (first | with_reducible exact Below.refl _ _ | with_reducible assumption | with_reducible refine below_drewN ?_ _ | with_reducible refine Below.drew ?_ | with_reducible refine Below.alloc ?_ ?_ _ | with_reducible refine Below.setCell ?_ ?_ _ | with_reducible refine Below.trans ?_ (Below.mono (by with_reducible assumption) ?_) | with_reducible refine below_only ?_ (by with_reducible assumption) ?_ ?_ | (simp; done) | (simp; omega) | omega))))
         have hr1 := (Hb1.out.block _ hs0).trans Hr0.out
         have c10 := cell_of_row w1 w.heap.size 0 _ _ _ hr1; have c11 := cell_of_row w1 w.heap.size 1 _ _ _ hr1; have c12 := cell_of_row w1 w.heap.size 2 _ _ _ hr1; have c13 := cell_of_row w1 w.heap.size 3 _ _ _ hr1; have c14 := cell_of_row w1 w.heap.size 4 _ _ _ hr1
         have hgs : w0.heap.size ≤ g := hg1
         have hgl := ht1.lt
         clear ht1 hb1 hr1 hg1)
      | (go_at_call 11
         refine (lots_any g _ 2 _ Ht1.out (by omega) (by omega)).mono ?_
         rintro e w2 ⟨q, dd, A1, a1, B1, b1, m, l, k, r, rfl, hown2, hlen2, hm1, hm4, _, _, _, _, ht2, hg2⟩
         have HD1 := Lib.hid hown2.at
         have Hl2 := Lib.hid hlen2
         have Hb2 : Hid (Below w0.heap.size w0 w2) := Lib.hid (below_only Hb1.out hg2 hgs Hb1.out.size)
         have hr2 := (Hb2.out.block _ hs0).trans Hr0.out
         have c20 := cell_of_row w2 w.heap.size 0 _ _ _ hr2; have c21 := cell_of_row w2 w.heap.size 1 _ _ _ hr2; have c22 := cell_of_row w2 w.heap.size 2 _ _ _ hr2; have c23 := cell_of_row w2 w.heap.size 3 _ _ _ hr2; have c24 := cell_of_row w2 w.heap.size 4 _ _ _ hr2
         clear hown2 hlen2 ht2 hg2 hr2)
      | fail)
  go_wp2
  have hrow := heap_alloc_new w2 (.cells #[.int .i64 dd.st, .slice q.a1 dd.se.length q.c1, .slice q.a2 dd.sd.length q.c2, .slice q.a3 dd.sx.length q.c3, .slice q.a4 dd.rv.length q.c4, .int .i64 d.st, .slice p.a1 d.se.length p.c1, .slice p.a2 d.sd.length p.c2, .slice p.a3 d.sx.length p.c3, .slice p.a4 d.rv.length p.c4] 26)
  have Hb3 : Hid (Below w2.heap.size w2 (w2.alloc (.cells #[.int .i64 dd.st, .slice q.a1 dd.se.length q.c1, .slice q.a2 dd.sd.length q.c2, .slice q.a3 dd.sx.length q.c3, .slice q.a4 dd.rv.length q.c4, .int .i64 d.st, .slice p.a1 d.se.length p.c1, .slice p.a2 d.sd.length p.c2, .slice p.a3 d.sx.length p.c3, .slice p.a4 d.rv.length p.c4] 26))) := Lib.hid (by repeat' (first | with_reducible exact Below.refl _ _ | with_reducible refine below_drewN ?_ _ | with_reducible refine Below.drew ?_ | with_reducible refine Below.alloc ?_ ?_ _ | with_reducible refine Below.setCell ?_ ?_ _ | with_reducible refine Below.trans ?_ (Below.mono (by with_reducible assumption) ?_) | (simp; done) | (simp; omega) | omega))
  obtain ⟨BS, hBS⟩ : ∃ B, w2.heap.size = B := ⟨_, rfl⟩
  have hs3 : BS < (w2.alloc (.cells #[.int .i64 dd.st, .slice q.a1 dd.se.length q.c1, .slice q.a2 dd.sd.length q.c2, .slice q.a3 dd.sx.length q.c3, .slice q.a4 dd.rv.length q.c4, .int .i64 d.st, .slice p.a1 d.se.length p.c1, .slice p.a2 d.sd.length p.c2, .slice p.a3 d.sx.length p.c3, .slice p.a4 d.rv.length p.c4] 26)).heap.size := by rw [← hBS]; simp
  have HD13 : Hid (DrAt (w2.alloc (.cells #[.int .i64 dd.st, .slice q.a1 dd.se.length q.c1, .slice q.a2 dd.sd.length q.c2, .slice q.a3 dd.sx.length q.c3, .slice q.a4 dd.rv.length q.c4, .int .i64 d.st, .slice p.a1 d.se.length p.c1, .slice p.a2 d.sd.length p.c2, .slice p.a3 d.sx.length p.c3, .slice p.a4 d.rv.length p.c4] 26)) q dd) := Lib.hid (HD1.out.below Hb3.out)
  have HD23 : Hid (DrAt (w2.alloc (.cells #[.int .i64 dd.st, .slice q.a1 dd.se.length q.c1, .slice q.a2 dd.sd.length q.c2, .slice q.a3 dd.sx.length q.c3, .slice q.a4 dd.rv.length q.c4, .int .i64 d.st, .slice p.a1 d.se.length p.c1, .slice p.a2 d.sd.length p.c2, .slice p.a3 d.sx.length p.c3, .slice p.a4 d.rv.length p.c4] 26)) p d) := Lib.hid (((HD2.out.below Hb0.out).below Hb2.out).below Hb3.out)
  have HB : Hid (Below w.heap.size w (w2.alloc (.cells #[.int .i64 dd.st, .slice q.a1 dd.se.length q.c1, .slice q.a2 dd.sd.length q.c2, .slice q.a3 dd.sx.length q.c3, .slice q.a4 dd.rv.length q.c4, .int .i64 d.st, .slice p.a1 d.se.length p.c1, .slice p.a2 d.sd.length p.c2, .slice p.a3 d.sx.length p.c3, .slice p.a4 d.rv.length p.c4] 26))) := Lib.hid ((Hb0.out.trans (Hb2.out.mono (Nat.le_of_lt hs0))).trans (Hb3.out.mono (by have := Hb2.out.size; omega)))
  rw [hBS] at hrow ⊢
  generalize w2.alloc (.cells #[.int .i64 dd.st, .slice q.a1 dd.se.length q.c1, .slice q.a2 dd.sd.length q.c2, .slice q.a3 dd.sx.length q.c3, .slice q.a4 dd.rv.length q.c4, .int .i64 d.st, .slice p.a1 d.se.length p.c1, .slice p.a2 d.sd.length p.c2, .slice p.a3 d.sx.length p.c3, .slice p.a4 d.rv.length p.c4] 26) = w3 at *
  have Hrow := Lib.hid hrow
  have hsw0 := HB.out.size
  clear hrow Hb3 Hb2 Hb1 Hb0 HD1 HD2 Hr0 Ht1 hBS HNew c0 c1 c2 c3 c4 c10 c11 c12 c13 c14 c20 c21 c22 c23 c24 hs0 hgs hgl
  go_loopw [49] (fun i wr => Idx2 i ∧ Below w3.heap.size w3 wr) (fun i _ => (2 - intOf i).toNat)
  case atStart => exact ⟨.inl rfl, Below.refl _ _⟩
  case round =>
    obtain ⟨hi, hbw⟩ := hrel
    have Hbw := Lib.hid hbw
    have hsw := hbw.size
    have hrw := (hbw.block _ hs3).trans Hrow.out
    clear hbw
    rcases hi with rfl | rfl | rfl
    · have k0 := cell_of_row wr BS 0 _ _ _ hrw; have k1 := cell_of_row wr BS 1 _ _ _ hrw; have k2 := cell_of_row wr BS 2 _ _ _ hrw; have k3 := cell_of_row wr BS 3 _ _ _ hrw; have k4 := cell_of_row wr BS 4 _ _ _ hrw
      have k5 := cell_of_row wr BS 5 _ _ _ hrw; have k6 := cell_of_row wr BS 6 _ _ _ hrw; have k7 := cell_of_row wr BS 7 _ _ _ hrw; have k8 := cell_of_row wr BS 8 _ _ _ hrw; have k9 := cell_of_row wr BS 9 _ _ _ hrw
      clear hrw
      obtain ⟨⟨s0, sl, se⟩, hs⟩ : ∃ s, seedP dd = s := ⟨_, rfl⟩
      have H1 := Lib.hid (fun W (hW : Below wr.heap.size wr W) => seed_any q dd W ((HD13.out.below Hbw.out).below hW))
      have H2 := Lib.hid (fun W (hW : Below wr.heap.size wr W) => seedR_any q dd W ((HD13.out.below Hbw.out).below hW))
      rw [hs] at H1 H2
      clear hs
      go_wp2_with (first
        | (go_at_call 28
           refine (H1.out _ (by repeat' (first | with_reducible exact Below.refl _ _ | with_reducible refine below_drewN ?_ _ | with_reducible refine Below.drew ?_ | with_reducible refine Below.alloc ?_ ?_ _ | with_reducible refine Below.setCell ?_ ?_ _ | with_reducible refine Below.trans ?_ (Below.mono (by with_reducible assumption) ?_) | (simp; done) | (simp; omega) | omega))).mono ?_
           rintro e w4 ⟨v4, rfl, hown4, hb4⟩
           obtain ⟨E, ec, rfl, _, _, _⟩ := own_slice hown4
           have HE := Lib.hid (Sl.of_own hown4 (by simp))
           have hr4 := (hb4.block _ (by simp)).trans (heap_alloc_new wr (.cells #[.int .i64 dd.st, .slice q.a1 dd.se.length q.c1, .slice q.a2 dd.sd.length q.c2, .slice q.a3 dd.sx.length q.c3, .slice q.a4 dd.rv.length q.c4] 26))
           have x0 := cell_of_row w4 wr.heap.size 0 _ _ _ hr4; have x1 := cell_of_row w4 wr.heap.size 1 _ _ _ hr4; have x2 := cell_of_row w4 wr.heap.size 2 _ _ _ hr4; have x3 := cell_of_row w4 wr.heap.size 3 _ _ _ hr4; have x4 := cell_of_row w4 wr.heap.size 4 _ _ _ hr4
           have Hb4 : Hid (Below wr.heap.size wr w4) := Lib.hid (show Below wr.heap.size wr w4 from (by have hbq := hb4; exact (by repeat' (first | with_reducible exact Below.refl _ _ | with_reducible assumption | with_reducible refine below_drewN ?_ _ | with_reducible refine Below.drew ?_ | with_reducible refine Below.alloc ?_ ?_ _ | with_reducible refine Below.setCell ?_ ?_ _ | with_reducible refine Below.trans ?_ (Below.mono (by with_reducible assumption) ?_) | with_reducible refine below_only ?_ (by with_reducible assumption) ?_ ?_ | (simp; done) | (simp; omega) | omega))))
           have hs4 := Hb4.out.size
           clear hown4 hb4 hr4)
        | (go_at_call 29
           refine (H2.out _ Hb4.out).mono ?_
           rintro e w5 ⟨v5, rfl, hown5, hb5⟩
           obtain ⟨F, fc, rfl, _, _, _⟩ := own_slice hown5
           have HF := Lib.hid (Sl.of_own hown5 (by simp))
           have HE5 := Lib.hid (HE.out.below hb5)
           have Hb5 : Hid (Below wr.heap.size wr w5) := Lib.hid (Hb4.out.trans (hb5.mono hs4))
           have hs5 := Hb5.out.size
           clear hown5 hb5)
        | (go_at_call 30
           refine (ints_same E F ec fc sl _ HE5.out HF.out).mono ?_
           rintro e w6 ⟨rfl, hb6⟩
           have Hb6 : Hid (Below wr.heap.size wr w6) := Lib.hid (Hb5.out.trans (hb6.mono hs5))
           clear hb6)
        | fail)
      go_roundw
      case rel => exact ⟨.inr (.inl rfl), Hbw.out.trans (Hb6.out.mono hsw)⟩
      case measure => simp [intOf]
    · have k0 := cell_of_row wr BS 0 _ _ _ hrw; have k1 := cell_of_row wr BS 1 _ _ _ hrw; have k2 := cell_of_row wr BS 2 _ _ _ hrw; have k3 := cell_of_row wr BS 3 _ _ _ hrw; have k4 := cell_of_row wr BS 4 _ _ _ hrw
      have k5 := cell_of_row wr BS 5 _ _ _ hrw; have k6 := cell_of_row wr BS 6 _ _ _ hrw; have k7 := cell_of_row wr BS 7 _ _ _ hrw; have k8 := cell_of_row wr BS 8 _ _ _ hrw; have k9 := cell_of_row wr BS 9 _ _ _ hrw
      clear hrw
      obtain ⟨⟨s0, sl, se⟩, hs⟩ : ∃ s, seedP d = s := ⟨_, rfl⟩
      have H1 := Lib.hid (fun W (hW : Below wr.heap.size wr W) => seed_any p d W ((HD23.out.below Hbw.out).below hW))
      have H2 := Lib.hid (fun W (hW : Below wr.heap.size wr W) => seedR_any p d W ((HD23.out.below Hbw.out).below hW))
      rw [hs] at H1 H2
      clear hs
      go_wp2_with (first
        | (go_at_call 28
           refine (H1.out _ (by repeat' (first | with_reducible exact Below.refl _ _ | with_reducible refine below_drewN ?_ _ | with_reducible refine Below.drew ?_ | with_reducible refine Below.alloc ?_ ?_ _ | with_reducible refine Below.setCell ?_ ?_ _ | with_reducible refine Below.trans ?_ (Below.mono (by with_reducible assumption) ?_) | (simp; done) | (simp; omega) | omega))).mono ?_
           rintro e w4 ⟨v4, rfl, hown4, hb4⟩
           obtain ⟨E, ec, rfl, _, _, _⟩ := own_slice hown4
           have HE := Lib.hid (Sl.of_own hown4 (by simp))
           have hr4 := (hb4.block _ (by simp)).trans (heap_alloc_new wr (.cells #[.int .i64 d.st, .slice p.a1 d.se.length p.c1, .slice p.a2 d.sd.length p.c2, .slice p.a3 d.sx.length p.c3, .slice p.a4 d.rv.length p.c4] 26))
           have x0 := cell_of_row w4 wr.heap.size 0 _ _ _ hr4; have x1 := cell_of_row w4 wr.heap.size 1 _ _ _ hr4; have x2 := cell_of_row w4 wr.heap.size 2 _ _ _ hr4; have x3 := cell_of_row w4 wr.heap.size 3 _ _ _ hr4; have x4 := cell_of_row w4 wr.heap.size 4 _ _ _ hr4
           have Hb4 : Hid (Below wr.heap.size wr w4) := Lib.hid (show Below wr.heap.size wr w4 from (by have hbq := hb4; exact (by repeat' (first | with_reducible exact Below.refl _ _ | with_reducible assumption | with_reducible refine below_drewN ?_ _ | with_reducible refine Below.drew ?_ | with_reducible refine Below.alloc ?_ ?_ _ | with_reducible refine Below.setCell ?_ ?_ _ | with_reducible refine Below.trans ?_ (Below.mono (by with_reducible assumption) ?_) | with_reducible refine below_only ?_ (by with_reducible assumption) ?_ ?_ | (simp; done) | (simp; omega) | omega))))
           have hs4 := Hb4.out.size
           clear hown4 hb4 hr4)
        | (go_at_call 29
           refine (H2.out _ Hb4.out).mono ?_
           rintro e w5 ⟨v5, rfl, hown5, hb5⟩
           obtain ⟨F, fc, rfl, _, _, _⟩ := own_slice hown5
           have HF := Lib.hid (Sl.of_own hown5 (by simp))
           have HE5 := Lib.hid (HE.out.below hb5)
           have Hb5 : Hid (Below wr.heap.size wr w5) := Lib.hid (Hb4.out.trans (hb5.mono hs4))
           have hs5 := Hb5.out.size
           clear hown5 hb5)
        | (go_at_call 30
           refine (ints_same E F ec fc sl _ HE5.out HF.out).mono ?_
           rintro e w6 ⟨rfl, hb6⟩
           have Hb6 : Hid (Below wr.heap.size wr w6) := Lib.hid (Hb5.out.trans (hb6.mono hs5))
           clear hb6)
        | fail)
      go_roundw
      case rel => exact ⟨.inr (.inr rfl), Hbw.out.trans (Hb6.out.mono hsw)⟩
      case measure => simp [intOf]
    · clear hrw
      go_wp2_with (first
        | (go_at_call 31; refine (mix_any _ _).mono ?_; rintro e w5 ⟨rfl, rfl⟩)
        | (go_at_call 32; refine (mixR_any _ _).mono ?_; rintro e w5 ⟨rfl, rfl⟩)
        | (go_at_call 33; refine (seal_any _ _ _ _).mono ?_; rintro e w5 ⟨rfl, rfl⟩)
        | (go_at_call 34; refine (sealR_any _ _ _ _).mono ?_; rintro e w5 ⟨rfl, rfl⟩)
        | (go_at_call 35; refine (tick_any _ _ _).mono ?_; rintro e w5 ⟨rfl, rfl⟩)
        | (go_at_call 36; refine (tickR_any _ _ _).mono ?_; rintro e w5 ⟨rfl, rfl⟩)
        | (go_at_call 9; refine (awake_any _).mono ?_; rintro e w6 ⟨rfl, hb6⟩; have Hb6 := Lib.hid (HB.out.trans ((Hbw.out.mono hsw0).trans (hb6.mono (Nat.le_trans hsw0 hsw)))); clear hb6)
        | fail)
      go_ret
      exact ⟨rfl, Hb6.out⟩
end Go.Proofs.Ytbkkmgofjhaaoaa
