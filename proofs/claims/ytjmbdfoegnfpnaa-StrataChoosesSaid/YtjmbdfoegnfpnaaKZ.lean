/- Contract: plans in which something is another thing (the law's spoilt). -/
import Derived.Test.YtjmbdfoegnfpnaaK8
namespace Go.Proofs.Ytjmbdfoegnfpnaa
open Go.RowKit
set_option linter.unusedVariables false
set_option linter.unusedSimpArgs false

theorem Sl.reads {w : World} {A : Option Addr} {c : Nat} {α : Type} {f : α → Value} {l : List α} (h : Sl w A c (l.map f)) : Reads w w.heap.size 1 A l.length (l.map f) := by
  have := h.lies
  rw [List.length_map] at this
  exact this.reads (by simp)

theorem own_setNe {w : World} {base : Nat} {e : TypeId} {size n : Nat} {v : Value} {xs : List Value} (h : w.ownsRow base e size v n xs) {p : Addr} (hp : ∀ g, v.ownBlock = some g → g ≠ p.block) (u : Value) : (w.setCell p u).ownsRow base e size v n xs :=
  own_grown h (only_setCell (World.grownBy.refl _ _) (.inl rfl) u) (fun g hg e => hp g hg (by injection e with e; exact e.symm))
/-- What spoilt leaves: some plan. -/
def SpoiltPost (w : World) (g : Nat) (e : Ending) (w' : World) : Prop :=
  ∃ (p : PlV) (q : Pl) (r : List Int), e = .returned (.agg #[.slice p.a1 q.ws.length p.c1, .slice p.a2 q.ls.length p.c2, .slice p.a3 q.ss.length p.c3, .int .i64 q.le, .int .i64 q.ra]) ∧ PlOwn w' w.heap.size p q ∧ TapeAt w' g r ∧ w.grownBy w' (some g) ∧ q.ss.length ≤ 7

set_option maxHeartbeats 8000000 in
set_option maxRecDepth 100000 in
theorem spoilt_any (g : Nat) (r : List Int) (by_ : Int) (w : World) (ht : TapeAt w g r) :
    Calls Try.prog 15 #[.pointer (some ⟨g, 0, none⟩), .int .i64 by_] w (SpoiltPost w g) := by
  obtain ⟨i0, hi, hz0, hz1, hz2⟩ := info_parts Try.infoIn
  have Ht := Lib.hid ht
  have hlt := ht.lt
  clear ht
  go_enter Try.func15, Try.ntmps15
  go_upto_region 1 with fail
  obtain ⟨w0, hw0⟩ : ∃ w0 : World, w0 = w.alloc (.cells #[.slice none 0 0, .slice none 0 0, .slice none 0 0, .int .i64 0, .int .i64 0] 24) := ⟨_, rfl⟩
  rw [← hw0]
  have HR0 : Hid (w0.heap[w.heap.size]? = some (.cells #[.slice none 0 0, .slice none 0 0, .slice none 0 0, .int .i64 0, .int .i64 0] 24 (0, 0))) := Lib.hid (by rw [hw0]; exact heap_alloc_new w _)
  have Hb0 : Hid (Below w.heap.size w w0) := Lib.hid (by rw [hw0]; exact (by repeat' (first | with_reducible exact Below.refl _ _ | with_reducible refine below_drewN ?_ _ | with_reducible refine Below.drew ?_ | with_reducible refine Below.alloc ?_ ?_ _ | with_reducible refine Below.setCell ?_ ?_ _ | with_reducible refine Below.trans ?_ (Below.mono (by with_reducible assumption) ?_) | (simp; done) | (simp; omega) | omega)))
  have hs0 : w.heap.size < w0.heap.size := by rw [hw0]; simp
  have Ht0 := Lib.hid (Ht.out.below Hb0.out hlt)
  have Hg0 : Hid (w.grownBy w0 (some g)) := Lib.hid (only_below (World.grownBy.refl _ _) Hb0.out (Nat.le_refl _))
  clear hw0
  go_wp2_with fail
  refine (plan_any g r w0 Ht0.out).mono ?_
  rintro e w1 ⟨p, q, r1, rfl, ho1, ht1, hg1, hck, hle⟩
  have Ho1 := Lib.hid ho1
  have Hg1 := Lib.hid (only_trans Hg0.out hg1)
  have hs1 := hg1.size
  have HR1 := Lib.hid ((hg1.block w.heap.size hs0 (fun e => by injection e; omega)).trans HR0.out)
  have Ht1 := Lib.hid ht1
  have hwl : q.ws.length ≤ 6 ∧ q.ls.length ≤ 5 ∧ q.ss.length ≤ 6 := by
    obtain ⟨⟨-, h1⟩, -, h2, -, h3, -⟩ := (planB_iff q).1 (checkP_zero hck)
    omega
  clear ho1 ht1 hg1 hck hle HR0 Hg0 Ht0
  go_upto_region 2 with fail
  obtain ⟨X, hX⟩ : ∃ X, X = w1.heap.size := ⟨_, rfl⟩
  obtain ⟨w2, hw2⟩ : ∃ w2 : World, w2 = w1.alloc (.cells #[.slice p.a1 q.ws.length p.c1, .slice p.a2 q.ls.length p.c2, .slice p.a3 q.ss.length p.c3, .int .i64 q.le, .int .i64 q.ra] 24) := ⟨_, rfl⟩
  rw [← hw2, ← hX]
  have HP2 : Hid (w2.heap[X]? = some (.cells #[.slice p.a1 q.ws.length p.c1, .slice p.a2 q.ls.length p.c2, .slice p.a3 q.ss.length p.c3, .int .i64 q.le, .int .i64 q.ra] 24 (0, 0))) := Lib.hid (by rw [hw2, hX]; exact heap_alloc_new w1 _)
  have Hb2 : Hid (Below w1.heap.size w1 w2) := Lib.hid (by rw [hw2]; exact (by repeat' (first | with_reducible exact Below.refl _ _ | with_reducible refine below_drewN ?_ _ | with_reducible refine Below.drew ?_ | with_reducible refine Below.alloc ?_ ?_ _ | with_reducible refine Below.setCell ?_ ?_ _ | with_reducible refine Below.trans ?_ (Below.mono (by with_reducible assumption) ?_) | (simp; done) | (simp; omega) | omega)))
  have hs2 : w1.heap.size + 1 ≤ w2.heap.size := by rw [hw2]; simp
  clear hw2
  have Hold : Hid ((∀ b, (Value.slice p.a1 q.ws.length p.c1).ownBlock = some b → b < X) ∧ (∀ b, (Value.slice p.a2 q.ls.length p.c2).ownBlock = some b → b < X) ∧ (∀ b, (Value.slice p.a3 q.ss.length p.c3).ownBlock = some b → b < X)) := Lib.hid (by rw [hX]; exact ⟨own_lt Ho1.out.o1, own_lt Ho1.out.o2, own_lt Ho1.out.o3⟩)
  have Ho2 := Lib.hid (Ho1.out.below Hb2.out)
  have hX2 : X < w2.heap.size := by omega
  have hX0 : w0.heap.size ≤ X := by omega
  have Ht2 := Lib.hid (Ht1.out.below Hb2.out (by omega))
  have Hg2 := Lib.hid (only_below Hg1.out Hb2.out (by omega))
  have HR2 := Lib.hid ((Hb2.out.block w.heap.size (by omega)).trans HR1.out)
  clear hX Ho1 Ht1 Hg1 HR1 Hb2
  go_wp2_with fail
  refine (next_any g r1 8 _ Ht2.out (by omega)).mono ?_
  rintro e w3 ⟨rfl, ht3, hg3⟩
  have hk := nx_bd r1 8 (by omega)
  generalize nx r1 8 = k at *
  have Ho3 := Lib.hid (Ho2.out.only hg3 (by omega))
  have HP3 := Lib.hid ((hg3.block X hX2 (fun e => by injection e; omega)).trans HP2.out)
  have HR3 := Lib.hid ((hg3.block w.heap.size (by omega) (fun e => by injection e; omega)).trans HR2.out)
  have Hg3 := Lib.hid (only_trans Hg2.out hg3)
  have Ht3 := Lib.hid ht3
  have hs3 := hg3.size
  have hX3 : X < w3.heap.size := by omega
  clear ht3 hg3 Ho2 HP2 HR2 Hg2 Ht2
  go_upto_block 0 with fail
  go_cut [] (fun wx => ∃ (p' : PlV) (q' : Pl), wx.heap[X]? = some (.cells #[.slice p'.a1 q'.ws.length p'.c1, .slice p'.a2 q'.ls.length p'.c2, .slice p'.a3 q'.ss.length p'.c3, .int .i64 q'.le, .int .i64 q'.ra] 24 (0, 0)) ∧ PlOwn wx w0.heap.size p' q' ∧ TapeAt wx g r1.tail ∧ w.grownBy wx (some g) ∧ wx.heap[w.heap.size]? = some (.cells #[.slice none 0 0, .slice none 0 0, .slice none 0 0, .int .i64 0, .int .i64 0] 24 (0, 0)) ∧ q'.ss.length ≤ 7)
  case first =>
    have x0 := rowCell HP3.out (i := 0) rfl
    have x1 := rowCell HP3.out (i := 1) rfl
    have x2 := rowCell HP3.out (i := 2) rfl
    have x3 := rowCell HP3.out (i := 3) rfl
    have x4 := rowCell HP3.out (i := 4) rfl
    have fx := fun j => frozen_of_row w3 X j _ _ HP3.out
    have fx0 := fx 0
    have fx3 := fx 3
    have fx4 := fx 4
    clear fx
    have Hst : Hid (∀ (j : Nat) (u : Value) (W : World), Below w3.heap.size w3 W → TapeAt (W.setCell ⟨X, j, none⟩ u) g r1.tail ∧ w.grownBy (W.setCell ⟨X, j, none⟩ u) (some g) ∧ (W.setCell ⟨X, j, none⟩ u).heap[w.heap.size]? = some (.cells #[.slice none 0 0, .slice none 0 0, .slice none 0 0, .int .i64 0, .int .i64 0] 24 (0, 0))) := Lib.hid (fun j u W hW => ⟨(Ht3.out.below hW (by omega)).setCell (by show g < X; omega) u, only_setCell (only_below Hg3.out hW (by omega)) (.inr (by show w.heap.size ≤ X; omega)) u, (Below.heap_setCell W ⟨X, j, none⟩ u w.heap.size (by show w.heap.size ≠ X; omega)).trans ((hW.block w.heap.size (by omega)).trans HR3.out)⟩)
    rcases (show k = 1 ∨ k = 2 ∨ k = 3 ∨ k = 4 ∨ k = 5 ∨ k = 6 ∨ k = 0 ∨ k = 7 by omega) with rfl | rfl | rfl | rfl | rfl | rfl | rfl | rfl
    · go_wp2_with (first
        | (at_builtin
           refine wpList_append_any _ rfl (.tmp 12) (.tmp 14) _ rfl w3.heap.size 3 i0 (.int .i64 0) 1 8 Try.underlying22 hi hz0 hz1 hz2 rfl (by omega) (.slice (some ⟨w3.heap.size, 0, none⟩) 0 0) 0 [] rfl (own_zero w3 w3.heap.size 3 1 (Nat.le_refl _)) _ p.a1 q.ws.length p.c1 (q.ws.map (Value.int .i64)) rfl (Sl.reads (Ho3.out.at.s1.below ((Below.refl _ _).alloc (Nat.le_refl _) _))) (ints_oneCell .i64 _) (by simp only [maxLen]; omega) (by omega) (by simp) ?_
           intro v5 w5 hown5 hg5 hat5
           rw [Nat.zero_add, List.nil_append] at hown5
           have Hown5 := Lib.hid hown5
           have Hb5 : Hid (Below w3.heap.size w3 w5) := Lib.hid (Below.grown ((Below.refl w3.heap.size w3).alloc (Nat.le_refl _) _) hg5 (by simp) (fun b hb => by simp [Value.ownBlock] at hb; omega))
           clear hown5 hg5 hat5)
        | (at_builtin
           refine wpList_append_any _ rfl (.tmp 15) (.tmp 17) _ rfl w3.heap.size 3 i0 (.int .i64 0) 1 8 Try.underlying22 hi hz0 hz1 hz2 rfl (by omega) v5 q.ws.length (q.ws.map (Value.int .i64)) rfl (Hown5.out.alloc _) _ _ 1 1 [.int .i64 by_] rfl ⟨rfl, fun _ => ⟨_, rfl, Nat.lt_succ_self _, fun j u hu => (by exact news_any _ _ _ j u hu)⟩⟩ (by simp [Value.oneCell']) (by simp only [maxLen]; omega) (by omega) (by simp; have := Hb5.out.size; omega) ?_
           intro v6 w6 hown6 hg6 hat6
           obtain ⟨A6, e6, rfl, _, _, _⟩ := own_slice hown6
           have Hown6 := Lib.hid hown6
           have Hb6 : Hid (Below w3.heap.size w3 w6) := Lib.hid (Below.grown ((Hb5.out).alloc Hb5.out.size _) hg6 (by simp; have := Hb5.out.size; omega) (own_base Hown5.out))
           have HX6 := Lib.hid ((Hb6.out.block X hX3).trans HP3.out)
           have c6 : w6.cell? ⟨X, 0, none⟩ = _ := rowCell HX6.out (i := 0) rfl
           have f6 := frozen_of_row w6 X 0 _ _ HX6.out
           clear hown6 hg6 hat6)
        | fail)
      go_meet
      case rel =>
        have ho := Ho3.out.below Hb6.out
        obtain ⟨h1, h2, h3⟩ := Hst.out 0 (.slice A6 (q.ws.length + 1) e6) w6 Hb6.out
        have hn : (w6.setCell ⟨X, 0, none⟩ (.slice A6 (q.ws.length + 1) e6)).ownsRow w0.heap.size 3 1 (.slice A6 (q.ws ++ [by_]).length e6) (q.ws ++ [by_]).length ((q.ws ++ [by_]).map (.int .i64)) := by
          rw [List.length_append, List.map_append]
          exact own_rebase (own_setNe Hown6.out (fun b hb e => by have := own_base Hown6.out b hb; simp at e; omega) _) (by omega)
        exact ⟨⟨A6, e6, p.a2, p.c2, p.a3, p.c3⟩, ⟨q.ws ++ [by_], q.ls, q.ss, q.le, q.ra⟩, setRow _ HX6.out (by simp), ⟨hn, own_setNe ho.o2 (fun b hb e => by have := Hold.out.2.1 b hb; simp at e; omega) _, own_setNe ho.o3 (fun b hb e => by have := Hold.out.2.2 b hb; simp at e; omega) _⟩, h1, h2, h3, by simp; omega⟩
    · go_wp2_with (first
        | (at_builtin
           refine wpList_append_any _ rfl (.tmp 22) (.tmp 24) _ rfl w3.heap.size 3 i0 (.int .i64 0) 1 8 Try.underlying22 hi hz0 hz1 hz2 rfl (by omega) (.slice (some ⟨w3.heap.size, 0, none⟩) 0 0) 0 [] rfl (own_zero w3 w3.heap.size 3 1 (Nat.le_refl _)) _ p.a2 q.ls.length p.c2 (q.ls.map (Value.int .i64)) rfl (Sl.reads (Ho3.out.at.s2.below ((Below.refl _ _).alloc (Nat.le_refl _) _))) (ints_oneCell .i64 _) (by simp only [maxLen]; omega) (by omega) (by simp) ?_
           intro v5 w5 hown5 hg5 hat5
           rw [Nat.zero_add, List.nil_append] at hown5
           have Hown5 := Lib.hid hown5
           have Hb5 : Hid (Below w3.heap.size w3 w5) := Lib.hid (Below.grown ((Below.refl w3.heap.size w3).alloc (Nat.le_refl _) _) hg5 (by simp) (fun b hb => by simp [Value.ownBlock] at hb; omega))
           clear hown5 hg5 hat5)
        | (at_builtin
           refine wpList_append_any _ rfl (.tmp 25) (.tmp 27) _ rfl w3.heap.size 3 i0 (.int .i64 0) 1 8 Try.underlying22 hi hz0 hz1 hz2 rfl (by omega) v5 q.ls.length (q.ls.map (Value.int .i64)) rfl (Hown5.out.alloc _) _ _ 1 1 [.int .i64 by_] rfl ⟨rfl, fun _ => ⟨_, rfl, Nat.lt_succ_self _, fun j u hu => (by exact news_any _ _ _ j u hu)⟩⟩ (by simp [Value.oneCell']) (by simp only [maxLen]; omega) (by omega) (by simp; have := Hb5.out.size; omega) ?_
           intro v6 w6 hown6 hg6 hat6
           obtain ⟨A6, e6, rfl, _, _, _⟩ := own_slice hown6
           have Hown6 := Lib.hid hown6
           have Hb6 : Hid (Below w3.heap.size w3 w6) := Lib.hid (Below.grown ((Hb5.out).alloc Hb5.out.size _) hg6 (by simp; have := Hb5.out.size; omega) (own_base Hown5.out))
           have HX6 := Lib.hid ((Hb6.out.block X hX3).trans HP3.out)
           have c6 : w6.cell? ⟨X, 1, none⟩ = _ := rowCell HX6.out (i := 1) rfl
           have f6 := frozen_of_row w6 X 1 _ _ HX6.out
           clear hown6 hg6 hat6)
        | fail)
      go_meet
      case rel =>
        have ho := Ho3.out.below Hb6.out
        obtain ⟨h1, h2, h3⟩ := Hst.out 1 (.slice A6 (q.ls.length + 1) e6) w6 Hb6.out
        have hn : (w6.setCell ⟨X, 1, none⟩ (.slice A6 (q.ls.length + 1) e6)).ownsRow w0.heap.size 3 1 (.slice A6 (q.ls ++ [by_]).length e6) (q.ls ++ [by_]).length ((q.ls ++ [by_]).map (.int .i64)) := by
          rw [List.length_append, List.map_append]
          exact own_rebase (own_setNe Hown6.out (fun b hb e => by have := own_base Hown6.out b hb; simp at e; omega) _) (by omega)
        exact ⟨⟨p.a1, p.c1, A6, e6, p.a3, p.c3⟩, ⟨q.ws, q.ls ++ [by_], q.ss, q.le, q.ra⟩, setRow _ HX6.out (by simp), ⟨own_setNe ho.o1 (fun b hb e => by have := Hold.out.1 b hb; simp at e; omega) _, hn, own_setNe ho.o3 (fun b hb e => by have := Hold.out.2.2 b hb; simp at e; omega) _⟩, h1, h2, h3, by simp; omega⟩
    · go_wp2_with (first
        | (at_builtin
           refine wpList_append_any _ rfl (.tmp 32) (.tmp 34) _ rfl w3.heap.size 3 i0 (.int .i64 0) 1 8 Try.underlying22 hi hz0 hz1 hz2 rfl (by omega) (.slice (some ⟨w3.heap.size, 0, none⟩) 0 0) 0 [] rfl (own_zero w3 w3.heap.size 3 1 (Nat.le_refl _)) _ p.a3 q.ss.length p.c3 (q.ss.map (Value.int .i64)) rfl (Sl.reads (Ho3.out.at.s3.below ((Below.refl _ _).alloc (Nat.le_refl _) _))) (ints_oneCell .i64 _) (by simp only [maxLen]; omega) (by omega) (by simp) ?_
           intro v5 w5 hown5 hg5 hat5
           rw [Nat.zero_add, List.nil_append] at hown5
           have Hown5 := Lib.hid hown5
           have Hb5 : Hid (Below w3.heap.size w3 w5) := Lib.hid (Below.grown ((Below.refl w3.heap.size w3).alloc (Nat.le_refl _) _) hg5 (by simp) (fun b hb => by simp [Value.ownBlock] at hb; omega))
           clear hown5 hg5 hat5)
        | (at_builtin
           refine wpList_append_any _ rfl (.tmp 35) (.tmp 37) _ rfl w3.heap.size 3 i0 (.int .i64 0) 1 8 Try.underlying22 hi hz0 hz1 hz2 rfl (by omega) v5 q.ss.length (q.ss.map (Value.int .i64)) rfl (Hown5.out.alloc _) _ _ 1 1 [.int .i64 by_] rfl ⟨rfl, fun _ => ⟨_, rfl, Nat.lt_succ_self _, fun j u hu => (by exact news_any _ _ _ j u hu)⟩⟩ (by simp [Value.oneCell']) (by simp only [maxLen]; omega) (by omega) (by simp; have := Hb5.out.size; omega) ?_
           intro v6 w6 hown6 hg6 hat6
           obtain ⟨A6, e6, rfl, _, _, _⟩ := own_slice hown6
           have Hown6 := Lib.hid hown6
           have Hb6 : Hid (Below w3.heap.size w3 w6) := Lib.hid (Below.grown ((Hb5.out).alloc Hb5.out.size _) hg6 (by simp; have := Hb5.out.size; omega) (own_base Hown5.out))
           have HX6 := Lib.hid ((Hb6.out.block X hX3).trans HP3.out)
           have c6 : w6.cell? ⟨X, 2, none⟩ = _ := rowCell HX6.out (i := 2) rfl
           have f6 := frozen_of_row w6 X 2 _ _ HX6.out
           clear hown6 hg6 hat6)
        | fail)
      go_meet
      case rel =>
        have ho := Ho3.out.below Hb6.out
        obtain ⟨h1, h2, h3⟩ := Hst.out 2 (.slice A6 (q.ss.length + 1) e6) w6 Hb6.out
        have hn : (w6.setCell ⟨X, 2, none⟩ (.slice A6 (q.ss.length + 1) e6)).ownsRow w0.heap.size 3 1 (.slice A6 (q.ss ++ [by_]).length e6) (q.ss ++ [by_]).length ((q.ss ++ [by_]).map (.int .i64)) := by
          rw [List.length_append, List.map_append]
          exact own_rebase (own_setNe Hown6.out (fun b hb e => by have := own_base Hown6.out b hb; simp at e; omega) _) (by omega)
        exact ⟨⟨p.a1, p.c1, p.a2, p.c2, A6, e6⟩, ⟨q.ws, q.ls, q.ss ++ [by_], q.le, q.ra⟩, setRow _ HX6.out (by simp), ⟨own_setNe ho.o1 (fun b hb e => by have := Hold.out.1 b hb; simp at e; omega) _, own_setNe ho.o2 (fun b hb e => by have := Hold.out.2.1 b hb; simp at e; omega) _, hn⟩, h1, h2, h3, by simp; omega⟩
    · go_wp2
      go_meet
      case rel =>
        obtain ⟨h1, h2, h3⟩ := Hst.out 3 (.int .i64 by_) w3 (Below.refl _ _)
        have ho := Ho3.out
        exact ⟨p, ⟨q.ws, q.ls, q.ss, by_, q.ra⟩, setRow _ HP3.out rfl, ⟨own_setNe ho.o1 (fun b hb e => by have := Hold.out.1 b hb; simp at e; omega) _, own_setNe ho.o2 (fun b hb e => by have := Hold.out.2.1 b hb; simp at e; omega) _, own_setNe ho.o3 (fun b hb e => by have := Hold.out.2.2 b hb; simp at e; omega) _⟩, h1, h2, h3, by (try dsimp only); omega⟩
    · go_wp2
      go_meet
      case rel =>
        obtain ⟨h1, h2, h3⟩ := Hst.out 4 (.int .i64 by_) w3 (Below.refl _ _)
        have ho := Ho3.out
        exact ⟨p, ⟨q.ws, q.ls, q.ss, q.le, by_⟩, setRow _ HP3.out rfl, ⟨own_setNe ho.o1 (fun b hb e => by have := Hold.out.1 b hb; simp at e; omega) _, own_setNe ho.o2 (fun b hb e => by have := Hold.out.2.1 b hb; simp at e; omega) _, own_setNe ho.o3 (fun b hb e => by have := Hold.out.2.2 b hb; simp at e; omega) _⟩, h1, h2, h3, by (try dsimp only); omega⟩
    · go_wp2
      go_meet
      case rel =>
        obtain ⟨h1, h2, h3⟩ := Hst.out 0 (.slice none 0 0) w3 (Below.refl _ _)
        have ho := Ho3.out
        exact ⟨⟨none, 0, p.a2, p.c2, p.a3, p.c3⟩, ⟨[], q.ls, q.ss, q.le, q.ra⟩, setRow _ HP3.out rfl, ⟨World.ownsRow_nil _ _ _ _, own_setNe ho.o2 (fun b hb e => by have := Hold.out.2.1 b hb; simp at e; omega) _, own_setNe ho.o3 (fun b hb e => by have := Hold.out.2.2 b hb; simp at e; omega) _⟩, h1, h2, h3, by (try dsimp only); omega⟩
    · go_wp2
      go_meet
      case rel => exact ⟨p, q, HP3.out, Ho3.out, Ht3.out, Hg3.out, HR3.out, by omega⟩
    · go_wp2
      go_meet
      case rel => exact ⟨p, q, HP3.out, Ho3.out, Ht3.out, Hg3.out, HR3.out, by omega⟩
  case rest =>
    obtain ⟨w9, rfl⟩ : ∃ w9 : World, w9 = wc := ⟨_, rfl⟩
    obtain ⟨p', q', hx, ho9, ht9, hg9, hr9, hle7⟩ := hcut
    have R0 := rowCell hr9 (i := 0) rfl
    have R1 := rowCell hr9 (i := 1) rfl
    have R2 := rowCell hr9 (i := 2) rfl
    have R3 := rowCell hr9 (i := 3) rfl
    have R4 := rowCell hr9 (i := 4) rfl
    have F0 := frozen_of_row w9 w.heap.size 0 _ _ hr9
    have F1 := frozen_of_row w9 w.heap.size 1 _ _ hr9
    have F2 := frozen_of_row w9 w.heap.size 2 _ _ hr9
    have F3 := frozen_of_row w9 w.heap.size 3 _ _ hr9
    have F4 := frozen_of_row w9 w.heap.size 4 _ _ hr9
    have x0 := rowCell hx (i := 0) rfl
    have x1 := rowCell hx (i := 1) rfl
    have x2 := rowCell hx (i := 2) rfl
    have x3 := rowCell hx (i := 3) rfl
    have x4 := rowCell hx (i := 4) rfl
    have Ho9 := Lib.hid ho9
    have Ht9 := Lib.hid ht9
    have Hg9 := Lib.hid hg9
    have Hr9 := Lib.hid hr9
    clear ho9 ht9 hg9 hr9 hx
    go_wp2
    obtain ⟨wz, hwz⟩ : ∃ wz : World, wz = (((((w9.setCell ⟨w.heap.size, 0, none⟩ (.slice p'.a1 q'.ws.length p'.c1)).setCell ⟨w.heap.size, 1, none⟩ (.slice p'.a2 q'.ls.length p'.c2)).setCell ⟨w.heap.size, 2, none⟩ (.slice p'.a3 q'.ss.length p'.c3)).setCell ⟨w.heap.size, 3, none⟩ (.int .i64 q'.le)).setCell ⟨w.heap.size, 4, none⟩ (.int .i64 q'.ra)) := ⟨_, rfl⟩
    rw [← hwz]
    have hz5 : wz.heap[w.heap.size]? = some (.cells #[.slice p'.a1 q'.ws.length p'.c1, .slice p'.a2 q'.ls.length p'.c2, .slice p'.a3 q'.ss.length p'.c3, .int .i64 q'.le, .int .i64 q'.ra] 24 (0, 0)) := by rw [hwz]; exact box5 Hr9.out
    have hgz : w9.grownBy wz (some w.heap.size) := by rw [hwz]; exact box5_only
    clear hwz x0 x1 x2 x3 x4 R0 R1 R2 R3 R4 F0 F1 F2 F3 F4
    have z0 := rowCell hz5 (i := 0) rfl
    have z1 := rowCell hz5 (i := 1) rfl
    have z2 := rowCell hz5 (i := 2) rfl
    have z3 := rowCell hz5 (i := 3) rfl
    have z4 := rowCell hz5 (i := 4) rfl
    refine bodyPost_ret (v := .agg #[.slice p'.a1 q'.ws.length p'.c1, .slice p'.a2 q'.ls.length p'.c2, .slice p'.a3 q'.ss.length p'.c3, .int .i64 q'.le, .int .i64 q'.ra]) (by simp [results, Try.results15, go_sem, z0, z1, z2, z3, z4]) rfl ?_
    exact ⟨p', q', r1.tail, rfl, (Ho9.out.only hgz hs0).rebase (by omega), Ht9.out.grown hgz (by rintro _ ⟨⟩; exact hlt), only_grown Hg9.out hgz (by rintro _ ⟨⟩; exact Nat.le_refl _), hle7⟩
end Go.Proofs.Ytjmbdfoegnfpnaa
