/- Contracts: New (draw, and its reference). -/
import Derived.Test.YtbkkmgofjhaaoaaD5
namespace Go.Proofs.Ytbkkmgofjhaaoaa
open Go.RowKit
set_option linter.unusedVariables false
set_option linter.unusedSimpArgs false

def newD (n : Nat) : Dr := ⟨1, List.replicate n 0, List.replicate n false, List.replicate n 0, List.replicate n false⟩
def zeroD : Dr := ⟨0, [], [], [], []⟩
/-- The draw of some parties, and the error. -/
def newE (x : Int) : Dr × Int := if x < 1 ∨ 5 < x then (zeroD, 2) else (newD x.toNat, 0)
/-- What a call leaves that returns a draw of its own, and an error. -/
def DrEPost (w : World) (x : Dr × Int) (e : Ending) (w' : World) : Prop :=
  ∃ q : DV, e = .returned (.tuple #[.agg #[.int .i64 x.1.st, .slice q.a1 x.1.se.length q.c1, .slice q.a2 x.1.sd.length q.c2, .slice q.a3 x.1.sx.length q.c3, .slice q.a4 x.1.rv.length q.c4], .int .i64 x.2]) ∧ OwnD w' w.heap.size q x.1 ∧ Below w.heap.size w w'
theorem OwnD.zero (w : World) (base : Nat) : OwnD w base ⟨none, 0, none, 0, none, 0, none, 0⟩ zeroD :=
  ⟨World.ownsRow_nil _ _ _ _, World.ownsRow_nil _ _ _ _, World.ownsRow_nil _ _ _ _, World.ownsRow_nil _ _ _ _, fun k h => by simp [Value.ownBlock] at h, fun k h => by simp [Value.ownBlock] at h, fun k h => by simp [Value.ownBlock] at h, fun k h => by simp [Value.ownBlock] at h, fun k h => by simp [Value.ownBlock] at h, fun k h => by simp [Value.ownBlock] at h⟩
theorem new_leaf {P : Program} {f : Func} {post : Ending → World → Prop} {T : Array Value} {w0 : World} {g n b1 b2 b3 b4 : Nat} {a b c d e : Value} {t : TypeId} {o1 o2 o3 o4 : Obj} (hz : w0.heap[g]? = some (.cells #[a, b, c, d, e] t (0, 0))) (hg : g < w0.heap.size)
    (hres : ∀ w : World, w.cell? ⟨g, 0, none⟩ = some (.int .i64 1) → w.cell? ⟨g, 1, none⟩ = some (.slice (some ⟨b1, 0, none⟩) n n) → w.cell? ⟨g, 2, none⟩ = some (.slice (some ⟨b2, 0, none⟩) n n) → w.cell? ⟨g, 3, none⟩ = some (.slice (some ⟨b3, 0, none⟩) n n) → w.cell? ⟨g, 4, none⟩ = some (.slice (some ⟨b4, 0, none⟩) n n) →
      (results f T).run P w = .ok (.tuple #[.agg #[.int .i64 1, .slice (some ⟨b1, 0, none⟩) n n, .slice (some ⟨b2, 0, none⟩) n n, .slice (some ⟨b3, 0, none⟩) n n, .slice (some ⟨b4, 0, none⟩) n n], .int .i64 0]) w)
    (hpost : ∀ W : World, W.heap.size = w0.heap.size → (∀ B, B ≤ g → Below B w0 W) → post (.returned (.tuple #[.agg #[.int .i64 1, .slice (some ⟨b1, 0, none⟩) n n, .slice (some ⟨b2, 0, none⟩) n n, .slice (some ⟨b3, 0, none⟩) n n, .slice (some ⟨b4, 0, none⟩) n n], .int .i64 0])) (((((W.alloc o1).alloc o2).alloc o3).alloc o4).drew)) :
    bodyPost P f post .ret { tmps := T, defers := [] } ((((((((((w0.setCell ⟨g, 0, none⟩ (.int .i64 1)).setCell ⟨g, 1, none⟩ (.slice (some ⟨b1, 0, none⟩) n n)).setCell ⟨g, 2, none⟩ (.slice (some ⟨b2, 0, none⟩) n n)).setCell ⟨g, 3, none⟩ (.slice (some ⟨b3, 0, none⟩) n n)).setCell ⟨g, 4, none⟩ (.slice (some ⟨b4, 0, none⟩) n n)).alloc o1).alloc o2).alloc o3).alloc o4).drew) := by
  have hz5 := box5 (x := .int .i64 1) (y := .slice (some ⟨b1, 0, none⟩) n n) (z := .slice (some ⟨b2, 0, none⟩) n n) (u := .slice (some ⟨b3, 0, none⟩) n n) (v := .slice (some ⟨b4, 0, none⟩) n n) hz
  have hb := fun B (hB : B ≤ g) => box5_below (x := .int .i64 1) (y := .slice (some ⟨b1, 0, none⟩) n n) (z := .slice (some ⟨b2, 0, none⟩) n n) (u := .slice (some ⟨b3, 0, none⟩) n n) (v := .slice (some ⟨b4, 0, none⟩) n n) (Below.refl B w0) hB
  have hs : (((((w0.setCell ⟨g, 0, none⟩ (.int .i64 1)).setCell ⟨g, 1, none⟩ (.slice (some ⟨b1, 0, none⟩) n n)).setCell ⟨g, 2, none⟩ (.slice (some ⟨b2, 0, none⟩) n n)).setCell ⟨g, 3, none⟩ (.slice (some ⟨b3, 0, none⟩) n n)).setCell ⟨g, 4, none⟩ (.slice (some ⟨b4, 0, none⟩) n n)).heap.size = w0.heap.size := by simp [World.setCell]
  generalize (((((w0.setCell ⟨g, 0, none⟩ (.int .i64 1)).setCell ⟨g, 1, none⟩ (.slice (some ⟨b1, 0, none⟩) n n)).setCell ⟨g, 2, none⟩ (.slice (some ⟨b2, 0, none⟩) n n)).setCell ⟨g, 3, none⟩ (.slice (some ⟨b3, 0, none⟩) n n)).setCell ⟨g, 4, none⟩ (.slice (some ⟨b4, 0, none⟩) n n)) = W at *
  have hz6 : (((((W.alloc o1).alloc o2).alloc o3).alloc o4).drew).heap[g]? = some (.cells #[.int .i64 1, .slice (some ⟨b1, 0, none⟩) n n, .slice (some ⟨b2, 0, none⟩) n n, .slice (some ⟨b3, 0, none⟩) n n, .slice (some ⟨b4, 0, none⟩) n n] t (0, 0)) :=
    (Below.heap_alloc _ o4 _ (by simp; omega)).trans ((Below.heap_alloc _ o3 _ (by simp; omega)).trans ((Below.heap_alloc _ o2 _ (by simp; omega)).trans ((Below.heap_alloc _ o1 _ (by omega)).trans hz5)))
  exact bodyPost_ret (hres _ (cell_of_row _ _ 0 _ _ _ hz6) (cell_of_row _ _ 1 _ _ _ hz6) (cell_of_row _ _ 2 _ _ _ hz6) (cell_of_row _ _ 3 _ _ _ hz6) (cell_of_row _ _ 4 _ _ _ hz6)) rfl (hpost W hs hb)
theorem own_p1 {W : World} {b base n : Nat} {t : TypeId} {cs : Array Value} {o2 o3 o4 : Obj} (hb : b = W.heap.size) (hbase : base ≤ W.heap.size) (hn : cs.size = n) (hm : n ≤ maxLen) : (((((W.alloc (.cells cs t)).alloc o2).alloc o3).alloc o4).drew).ownsRow base t 1 (.slice (some ⟨b, 0, none⟩) n n) n cs.toList := by
  subst hb
  exact ((((World.ownsRow_lit W cs n hbase hm (by omega)).alloc o2).alloc o3).alloc o4).drew
theorem own_p2 {W : World} {b base n : Nat} {t : TypeId} {cs : Array Value} {o1 o3 o4 : Obj} (hb : b = W.heap.size + 1) (hbase : base ≤ W.heap.size) (hn : cs.size = n) (hm : n ≤ maxLen) : (((((W.alloc o1).alloc (.cells cs t)).alloc o3).alloc o4).drew).ownsRow base t 1 (.slice (some ⟨b, 0, none⟩) n n) n cs.toList := by
  have h : b = (W.alloc o1).heap.size := by simp; omega
  subst h
  exact (((World.ownsRow_lit (W.alloc o1) cs n (by simp; omega) hm (by omega)).alloc o3).alloc o4).drew
theorem own_p3 {W : World} {b base n : Nat} {t : TypeId} {cs : Array Value} {o1 o2 o4 : Obj} (hb : b = W.heap.size + 2) (hbase : base ≤ W.heap.size) (hn : cs.size = n) (hm : n ≤ maxLen) : (((((W.alloc o1).alloc o2).alloc (.cells cs t)).alloc o4).drew).ownsRow base t 1 (.slice (some ⟨b, 0, none⟩) n n) n cs.toList := by
  have h : b = ((W.alloc o1).alloc o2).heap.size := by simp; omega
  subst h
  exact ((World.ownsRow_lit ((W.alloc o1).alloc o2) cs n (by simp; omega) hm (by omega)).alloc o4).drew
theorem own_p4 {W : World} {b base n : Nat} {t : TypeId} {cs : Array Value} {o1 o2 o3 : Obj} (hb : b = W.heap.size + 3) (hbase : base ≤ W.heap.size) (hn : cs.size = n) (hm : n ≤ maxLen) : (((((W.alloc o1).alloc o2).alloc o3).alloc (.cells cs t)).drew).ownsRow base t 1 (.slice (some ⟨b, 0, none⟩) n n) n cs.toList := by
  have h : b = (((W.alloc o1).alloc o2).alloc o3).heap.size := by simp; omega
  subst h
  exact (World.ownsRow_lit (((W.alloc o1).alloc o2).alloc o3) cs n (by simp; omega) hm (by omega)).drew
theorem Apart.blocks {b c n m p r : Nat} (h : b ≠ c) : Apart (.slice (some ⟨b, 0, none⟩) n p) (.slice (some ⟨c, 0, none⟩) m r) := fun k h1 h2 => by
  simp [Value.ownBlock] at h1 h2
  omega

set_option maxHeartbeats 16000000 in
set_option maxRecDepth 100000 in
theorem newD_any (x : Int) (w : World) : Calls Try.prog 26 #[.int .i64 x] w (DrEPost w (newE x)) := by
  by_cases hx : x < 1 ∨ 5 < x
  · have e0 : newE x = (zeroD, 2) := if_pos hx
    rw [e0]
    clear e0
    by_cases h1 : x < 1
    · clear hx
      go_enter Try.func26, Try.ntmps26
      go_wp2
      refine bodyPost_ret (v := .tuple #[.agg #[.int .i64 0, .slice none 0 0, .slice none 0 0, .slice none 0 0, .slice none 0 0], .int .i64 2]) (by simp [results, Try.results26, go_sem, *]) rfl ?_
      exact ⟨⟨none, 0, none, 0, none, 0, none, 0⟩, rfl, OwnD.zero _ _, (by repeat' (first | with_reducible exact Below.refl _ _ | with_reducible refine below_drewN ?_ _ | with_reducible refine Below.drew ?_ | with_reducible refine Below.alloc ?_ ?_ _ | with_reducible refine Below.setCell ?_ ?_ _ | with_reducible refine Below.trans ?_ (Below.mono (by with_reducible assumption) ?_) | (simp; done) | (simp; omega) | omega))⟩
    · have h5 : 5 < x := by omega
      clear hx
      go_enter Try.func26, Try.ntmps26
      go_wp2
      refine bodyPost_ret (v := .tuple #[.agg #[.int .i64 0, .slice none 0 0, .slice none 0 0, .slice none 0 0, .slice none 0 0], .int .i64 2]) (by simp [results, Try.results26, go_sem, *]) rfl ?_
      exact ⟨⟨none, 0, none, 0, none, 0, none, 0⟩, rfl, OwnD.zero _ _, (by repeat' (first | with_reducible exact Below.refl _ _ | with_reducible refine below_drewN ?_ _ | with_reducible refine Below.drew ?_ | with_reducible refine Below.alloc ?_ ?_ _ | with_reducible refine Below.setCell ?_ ?_ _ | with_reducible refine Below.trans ?_ (Below.mono (by with_reducible assumption) ?_) | (simp; done) | (simp; omega) | omega))⟩
  · have e0 : newE x = (newD x.toNat, 0) := if_neg hx
    rw [e0]
    obtain ⟨n, rfl⟩ := Int.eq_ofNat_of_zero_le (show 0 ≤ x by omega)
    have hn5 : n ≤ 5 := by omega
    have hn1 : 1 ≤ n := by omega
    have g1 : ¬ (n : Int) < 1 := by omega
    have g2 : ¬ 5 < (n : Int) := by omega
    obtain ⟨iu0, iuh, iuz0, iuz1, iuz2⟩ := info_parts Try.infoU
    obtain ⟨ib0, ibh, ibz0, ibz1, ibz2⟩ := info_parts Try.infoBo
    have m1 := fun W : World => run_make (P := Try.prog) W 23 27 iu0 _ Try.underlying23 iuh iuz0 .i64 .i64 n n (by omega) (Int.le_refl _) (by rw [iuz2]; omega) (by omega)
    have m2 := fun W : World => run_make (P := Try.prog) W 24 4 ib0 _ Try.underlying24 ibh ibz0 .i64 .i64 n n (by omega) (Int.le_refl _) (by rw [ibz2]; omega) (by omega)
    simp only [Int.toNat_natCast, iuz1, ibz1] at m1 m2
    obtain ⟨cu, hcu⟩ : ∃ cu, madeCells (Value.int IntKind.u64 0).cells (n * 1) = cu := ⟨_, rfl⟩
    obtain ⟨cb, hcb⟩ : ∃ cb, madeCells (Value.bool false).cells (n * 1) = cb := ⟨_, rfl⟩
    rw [hcu] at m1
    rw [hcb] at m2
    have Hcu : Hid (cu.toList = List.replicate n (.int .u64 0) ∧ cu.size = n) := Lib.hid (by rw [← hcu, Nat.mul_one]; exact ⟨toList_madeCells_one _ _, size_madeCells _ _⟩)
    have Hcb : Hid (cb.toList = List.replicate n (.bool false) ∧ cb.size = n) := Lib.hid (by rw [← hcb, Nat.mul_one]; exact ⟨toList_madeCells_one _ _, size_madeCells _ _⟩)
    simp only [Int.toNat_natCast]
    clear hx e0 hcu hcb iuh iuz0 iuz1 iuz2 ibh ibz0 ibz1 ibz2
    go_enter Try.func26, Try.ntmps26
    go_upto_region 3 with fail
    obtain ⟨w0, hw0⟩ : ∃ w0 : World, w0 = w.alloc (.cells #[.int .i64 0, .slice none 0 0, .slice none 0 0, .slice none 0 0, .slice none 0 0] 26) := ⟨_, rfl⟩
    rw [← hw0]
    have hz : w0.heap[w.heap.size]? = some (.cells #[.int .i64 0, .slice none 0 0, .slice none 0 0, .slice none 0 0, .slice none 0 0] 26 (0, 0)) := by rw [hw0]; exact heap_alloc_new w _
    have hs0 : w0.heap.size = w.heap.size + 1 := by rw [hw0]; simp
    have HB : Hid (Below w.heap.size w w0) := Lib.hid (by rw [hw0]; exact (by repeat' (first | with_reducible exact Below.refl _ _ | with_reducible refine below_drewN ?_ _ | with_reducible refine Below.drew ?_ | with_reducible refine Below.alloc ?_ ?_ _ | with_reducible refine Below.setCell ?_ ?_ _ | with_reducible refine Below.trans ?_ (Below.mono (by with_reducible assumption) ?_) | (simp; done) | (simp; omega) | omega)))
    have c00 := cell_of_row w0 w.heap.size 0 _ _ _ hz
    have f00 := frozen_of_row w0 w.heap.size 0 _ _ hz
    have c01 := cell_of_row w0 w.heap.size 1 _ _ _ hz
    have f01 := frozen_of_row w0 w.heap.size 1 _ _ hz
    have c02 := cell_of_row w0 w.heap.size 2 _ _ _ hz
    have f02 := frozen_of_row w0 w.heap.size 2 _ _ hz
    have c03 := cell_of_row w0 w.heap.size 3 _ _ _ hz
    have f03 := frozen_of_row w0 w.heap.size 3 _ _ hz
    have c04 := cell_of_row w0 w.heap.size 4 _ _ _ hz
    have f04 := frozen_of_row w0 w.heap.size 4 _ _ hz
    clear hw0
    go_region_held3 (fun w' => True)
      (first | trivial)
      (first | fail)
    all_goals go_wp2
    all_goals
      with_reducible refine new_leaf hz (by omega) (fun w h0 h1 h2 h3 h4 => by simp [results, Try.results26, go_sem, h0, h1, h2, h3, h4]) (fun W hW hWb => ?_)
      have l1 : (newD n).se.length = n := by simp [newD]
      have l2 : (newD n).sd.length = n := by simp [newD]
      have l3 : (newD n).sx.length = n := by simp [newD]
      have l4 : (newD n).rv.length = n := by simp [newD]
      have r1 : (newD n).se.map (Value.int .u64) = cu.toList := by rw [Hcu.out.1]; simp [newD]
      have r2 : (newD n).sd.map Value.bool = cb.toList := by rw [Hcb.out.1]; simp [newD]
      have r3 : (newD n).sx.map (Value.int .u64) = cu.toList := by rw [Hcu.out.1]; simp [newD]
      have r4 : (newD n).rv.map Value.bool = cb.toList := by rw [Hcb.out.1]; simp [newD]
      have hm : n ≤ maxLen := by unfold maxLen; omega
      refine ⟨⟨some ⟨_, 0, none⟩, n, some ⟨_, 0, none⟩, n, some ⟨_, 0, none⟩, n, some ⟨_, 0, none⟩, n⟩, by rw [l1, l2, l3, l4]; rfl, ⟨?_, ?_, ?_, ?_, ?_, ?_, ?_, ?_, ?_, ?_⟩, Below.drew (((((HB.out.trans (hWb _ (Nat.le_refl _))).alloc (by omega) _).alloc (by simp; omega) _).alloc (by simp; omega) _).alloc (by simp; omega) _)⟩
      · rw [l1, r1]; first | with_reducible exact own_p1 (by omega) (by omega) Hcu.out.2 hm | with_reducible exact own_p2 (by omega) (by omega) Hcu.out.2 hm | with_reducible exact own_p3 (by omega) (by omega) Hcu.out.2 hm | with_reducible exact own_p4 (by omega) (by omega) Hcu.out.2 hm
      · rw [l2, r2]; first | with_reducible exact own_p1 (by omega) (by omega) Hcb.out.2 hm | with_reducible exact own_p2 (by omega) (by omega) Hcb.out.2 hm | with_reducible exact own_p3 (by omega) (by omega) Hcb.out.2 hm | with_reducible exact own_p4 (by omega) (by omega) Hcb.out.2 hm
      · rw [l3, r3]; first | with_reducible exact own_p1 (by omega) (by omega) Hcu.out.2 hm | with_reducible exact own_p2 (by omega) (by omega) Hcu.out.2 hm | with_reducible exact own_p3 (by omega) (by omega) Hcu.out.2 hm | with_reducible exact own_p4 (by omega) (by omega) Hcu.out.2 hm
      · rw [l4, r4]; first | with_reducible exact own_p1 (by omega) (by omega) Hcb.out.2 hm | with_reducible exact own_p2 (by omega) (by omega) Hcb.out.2 hm | with_reducible exact own_p3 (by omega) (by omega) Hcb.out.2 hm | with_reducible exact own_p4 (by omega) (by omega) Hcb.out.2 hm
      all_goals (simp only [l1, l2, l3, l4]; exact Apart.blocks (by omega))
end Go.Proofs.Ytbkkmgofjhaaoaa
