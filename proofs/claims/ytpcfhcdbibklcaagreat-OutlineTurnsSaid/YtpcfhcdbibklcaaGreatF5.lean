/- Contract: Region (keep). -/
import Derived.Test.YtpcfhcdbibklcaaGreatF4
namespace Go.Proofs.YtpcfhcdbibklcaaGreat
open Go.RowKit
set_option linter.unusedVariables false
set_option linter.unusedSimpArgs false

/-- The rectangles that the tape makes, and what is left of it. -/
def mkRects : Nat → List Int → Int → List R4 × List Int
  | 0, r, _ => ([], r)
  | k + 1, r, s => (mkRect r s :: (mkRects k r.tail.tail.tail.tail s).1, (mkRects k r.tail.tail.tail.tail s).2)
/-- The region that the tape makes, and what is left of it. -/
def mkReg (r : List Int) (side most : Int) : List R4 × List Int := ((ofL (mkRects (nx r (most + 1)).toNat r.tail side).1).1, (mkRects (nx r (most + 1)).toNat r.tail side).2)
def RegTPost (w : World) (g : Nat) (x : List R4 × List Int) (e : Ending) (w' : World) : Prop :=
  ∃ v, e = .returned (.agg #[v]) ∧ w'.ownsRow w.heap.size 58 4 v x.1.length (rCells x.1) ∧ TapeAt w' g x.2 ∧ w.grownBy w' (some g)

set_option maxHeartbeats 4000000 in
set_option maxRecDepth 100000 in
theorem region_any (g : Nat) (r : List Int) (side most : Int) (w : World) (ht : TapeAt w g r) (hs : 1 ≤ side ∧ side ≤ 1000) (hm : 0 ≤ most ∧ most ≤ 100) :
    Calls Tryz.prog 9 #[.pointer (some ⟨g, 0, none⟩), .int .i64 side, .int .i64 most] w (RegTPost w g (mkReg r side most)) := by
  obtain ⟨i0, hi, hz0, hz1, hz2⟩ := info_parts Tryz.infoRect
  have hlt := ht.lt
  have hb := nx_bd r (most + 1) (by omega)
  have N1 := Lib.hid (next_any g r (most + 1) (w.alloc (.cells #[.slice none 0 0] 25)) (ht.alloc _) (by omega))
  have Hm : Hid (mkReg r side most = ((ofL (mkRects (nx r (most + 1)).toNat r.tail side).1).1, (mkRects (nx r (most + 1)).toNat r.tail side).2)) := Lib.hid rfl
  obtain ⟨n, hn⟩ := Int.eq_ofNat_of_zero_le hb.1
  rw [hn] at N1 Hm hb
  clear hn ht
  have hn100 : n ≤ 100 := by omega
  obtain ⟨tot, htot⟩ : ∃ tot, (mkRects n r.tail side).1 = tot := ⟨_, rfl⟩
  obtain ⟨rend, hrend⟩ : ∃ rend, (mkRects n r.tail side).2 = rend := ⟨_, rfl⟩
  have Hm2 : Hid (mkReg r side most = ((ofL tot).1, rend)) := Lib.hid (by rw [Hm.out]; simp only [Int.toNat_natCast]; rw [htot, hrend])
  have Htot := Lib.hid htot
  have Hrend := Lib.hid hrend
  generalize mkReg r side most = res at *
  clear Hm hb htot hrend
  go_enter Tryz.func9, Tryz.ntmps9
  go_wp2_with fail
  refine N1.out.mono ?_
  rintro e w1 ⟨rfl, ht1, hg1⟩
  have hsz1 := hg1.size
  simp at hsz1
  have Hg1 := Lib.hid hg1
  have HT1 := Lib.hid ht1
  have hr1 : w1.heap[w.heap.size]? = some (.cells #[.slice none 0 0] 25 (0, 0)) := (hg1.block w.heap.size (by simp) (by intro e; injection e; omega)).trans (heap_alloc_new w _)
  have Hr1 := Lib.hid hr1
  clear hg1 ht1 hr1 N1
  go_upto_region 3 with fail
  go_loopw [7, 8] (fun lv nv wr => ∃ (k : Nat) (acc : List R4) (r1 : List Int), nv = .int .i64 (k : Int) ∧ acc.length + k ≤ 100 ∧ wr.ownsRow w1.heap.size 58 4 lv acc.length (rCells acc) ∧ TapeAt wr g r1 ∧ w1.grownBy wr (some g) ∧ Hid (acc ++ (mkRects k r1 side).1 = tot) ∧ Hid ((mkRects k r1 side).2 = rend)) (fun _ nv _ => (intOf nv).toNat)
  case atStart => exact ⟨n, [], r.tail, rfl, by simpa using hn100, World.ownsRow_nil _ _ _ _, HT1.out, World.grownBy.refl _ _, Lib.hid (by rw [Htot.out]; rfl), Lib.hid Hrend.out⟩
  case round =>
    obtain ⟨k, acc, r1, rfl, hak, hown, htr, hgr, Hacc, Hre⟩ := hrel
    have hsr := hgr.size
    have Hown := Lib.hid hown
    have Htr := Lib.hid htr
    have Hgr := Lib.hid hgr
    clear hown htr hgr
    rcases k with _ | k
    · have Hat : Hid (acc = tot) := Lib.hid (by have := Hacc.out; simpa [mkRects] using this)
      have Hrr : Hid (r1 = rend) := Lib.hid (by have := Hre.out; simpa [mkRects] using this)
      rw [Hat.out] at Hown
      rw [Hrr.out] at Htr
      obtain ⟨A2, c2, rfl, h21, h22, h23⟩ := own_slice Hown.out
      have HS : Hid (SlR wr A2 tot.length c2 tot) := Lib.hid ⟨rfl, h22, h23, h21⟩
      have hr2 : wr.heap[w.heap.size]? = some (.cells #[.slice none 0 0] 25 (0, 0)) := (Hgr.out.block w.heap.size (by omega) (by intro e; injection e; omega)).trans Hr1.out
      have Hr2 := Lib.hid hr2
      clear h21 h22 h23 hr2
      go_wp2_with fail
      refine (ofR_any A2 tot.length c2 tot _ HS.out).mono ?_
      rintro e w3 ⟨v3, rfl, hown3, hb3⟩
      have hs3 := hb3.size
      obtain ⟨rl, hrl⟩ : ∃ rl, (ofL tot).1 = rl := ⟨_, rfl⟩
      obtain ⟨er, her⟩ : ∃ er, (ofL tot).2 = er := ⟨_, rfl⟩
      rw [hrl] at hown3
      rw [her]
      have hr3 : w3.heap[w.heap.size]? = some (.cells #[.slice none 0 0] 25 (0, 0)) := (hb3.block _ (by omega)).trans Hr2.out
      obtain ⟨A3, c3, rfl, _, _, _⟩ := own_slice hown3
      have Hlow3 : Hid (∀ k, (Value.slice A3 rl.length c3).ownBlock = some k → wr.heap.size ≤ k ∧ k < w3.heap.size) := Lib.hid (fun k hk => hown3.lt k hk)
      have HT3 : Hid (TapeAt w3 g rend) := Lib.hid (Htr.out.below hb3 (by have := Htr.out.lt; omega))
      have Hb3 := Lib.hid hb3
      have Hr3 := Lib.hid hr3
      have Hown3 := Lib.hid hown3
      have Hrl := Lib.hid hrl
      have hs30 : w.heap.size < w3.heap.size := by omega
      have cr3 : ∀ o, (w3.alloc o).cell? ⟨w.heap.size, 0, none⟩ = some (.slice none 0 0) := fun o => by rw [World.cell?_alloc_lt w3 o _ hs30]; exact cell_of_row w3 w.heap.size 0 _ _ _ Hr3.out
      have fr3 : ∀ o, (w3.alloc o).frozen? ⟨w.heap.size, 0, none⟩ = false := fun o => frozen_of_row (w3.alloc o) w.heap.size 0 _ _ ((Below.heap_alloc w3 o _ hs30).trans Hr3.out)
      have csame : (w3.setCell ⟨w.heap.size, 0, none⟩ (.slice A3 rl.length c3)).cell? ⟨w.heap.size, 0, none⟩ = some (.slice A3 rl.length c3) := by
        rw [cell_of_row _ w.heap.size 0 _ _ _ (heap_setCell_same w3 w.heap.size 0 _ _ _ hr3)]
        simp
      clear hown3 hb3 hr3 hrl her
      go_wp2
      refine bodyPost_ret (v := .agg #[.slice A3 rl.length c3]) (by simp [results, Tryz.results9, go_sem, *]) rfl ?_
      rw [Hm2.out]
      rw [Hrl.out]
      refine ⟨_, rfl, ?_, ?_, ?_⟩
      · exact ((own_other (own_rebase Hown3.out (by omega)) (only_setCell (g := w.heap.size) (World.grownBy.refl _ _) (.inl rfl) _) (fun k hk e => by injection e with e; have := Hlow3.out k hk; omega))).alloc _
      · exact (HT3.out.setCell hlt _).alloc _
      · have h0 := only_below (only_trans Hg1.out Hgr.out) Hb3.out (by simp; omega)
        have h1 : w.grownBy w3 (some g) := ⟨h0.os, h0.tape, h0.output, by omega, fun i hi hne => (h0.block i (by simp; omega) hne).trans (Below.heap_alloc w _ i hi)⟩
        exact only_alloc (only_setCell h1 (.inr (Nat.le_refl _)) _) _
    · have Hacc2 : Hid ((acc ++ [mkRect r1 side]) ++ (mkRects k r1.tail.tail.tail.tail side).1 = tot) := Lib.hid (by rw [← Hacc.out]; simp [mkRects])
      have Hre2 : Hid ((mkRects k r1.tail.tail.tail.tail side).2 = rend) := Lib.hid (by rw [← Hre.out]; rfl)
      have hk0 : (0 : Int) < ((k + 1 : Nat) : Int) := by omega
      have hac : acc.length ≤ 100 := by omega
      go_wp2_with (first
        | (go_at_call 28; refine (rect_any g r1 side _ Htr.out hs).mono ?_; rintro e w3 ⟨rfl, ht3, hg3⟩; have hs3 := hg3.size; have Hown3 := Lib.hid (ownsRow_only Hown.out hg3 (by omega)); have Htr3 := Lib.hid ht3; have Hgr3 := Lib.hid (only_trans Hgr.out hg3); clear ht3 hg3)
        | (at_builtin
           refine wpList_append_any _ rfl (.tmp 19) (.tmp 23) _ rfl w1.heap.size 58 i0 _ 4 32 Tryz.underlying23 hi hz0 hz1 hz2 rfl (by omega) _ acc.length (rCells acc) rfl
             (Hown3.out.alloc _) _ _ 1 1 [.int .i64 (mkRect r1 side).l, .int .i64 (mkRect r1 side).b, .int .i64 (mkRect r1 side).r, .int .i64 (mkRect r1 side).t] rfl ⟨rfl, fun _ => ⟨_, rfl, Nat.lt_succ_self _, fun j u hu => (by exact news_any _ _ _ j u hu)⟩⟩ (by simp [Value.oneCell']) (by simp only [maxLen]; omega) (by omega) (by simp; omega) ?_
           intro v5 w5 hown5 hg5 hat5)
        | fail)
      go_roundw
      case rel =>
        have hgl := Htr3.out.lt
        refine ⟨k, acc ++ [mkRect r1 side], _, by go_num, by simp; omega, ?_, ?_, ?_, Hacc2, Hre2⟩
        · rw [List.length_append, rCells_snoc]
          exact hown5
        · exact (Htr3.out.alloc _).grown hg5 (fun q hq => by have := own_base Hown3.out q hq; omega)
        · exact only_grown (only_alloc Hgr3.out _) hg5 (fun q hq => own_base Hown3.out q hq)
      case measure => simp [intOf]
end Go.Proofs.YtpcfhcdbibklcaaGreat
