/- Contracts: New (draw, and its reference). -/
import Derived.Test.YtjmbdfoegnfpnaaD5
namespace Go.Proofs.Ytjmbdfoegnfpnaa
open Go.RowKit
set_option linter.unusedVariables false
set_option linter.unusedSimpArgs false

def newD (n : Nat) : Dr := ⟨1, List.replicate n 0, List.replicate n false, List.replicate n 0, List.replicate n false⟩
def zeroD : Dr := ⟨0, [], [], [], []⟩
/-- The draw of some parties, and the error. -/
def newE (x : Int) : Dr × Int := if x < 1 ∨ 5 < x then (zeroD, 2) else (newD x.toNat, 0)
/-- What a call leaves that returns a draw of its own, and an error. -/
def DrEPost (w : World) (x : Dr × Int) (e : Ending) (w' : World) : Prop :=
  ∃ q : DV, e = .returned (.tuple #[.agg #[.int .i64 x.1.st, .slice q.a1 x.1.se.length q.c1, .slice q.a2 x.1.sd.length q.c2, .slice q.a3 x.1.sx.length q.c3, .slice q.a4 x.1.rv.length q.c4], .int .i64 x.2]) ∧ OwnD w' w.heap.size q x.1 ∧ Below w.heap.size w w'
theorem OwnD.zero (w : World) (base : Nat) : OwnD w base ⟨none, 0, none, 0, none, 0, none, 0⟩ zeroD :=
  ⟨World.ownsRow_nil _ _ _ _, World.ownsRow_nil _ _ _ _, World.ownsRow_nil _ _ _ _, World.ownsRow_nil _ _ _ _, fun k h => by simp [Value.ownBlock] at h, fun k h => by simp [Value.ownBlock] at h, fun k h => by simp [Value.ownBlock] at h, fun k h => by simp [Value.ownBlock] at h, fun k h => by simp [Value.ownBlock] at h, fun k h => by simp [Value.ownBlock] at h⟩
theorem new_leaf {P : Program} {f : Func} {post : Ending → World → Prop} {T : Array Value} {w0 : World} {g n b1 b2 b3 b4 : Nat} {a b c d e : Value} {t : TypeId} {o1 o2 o3 o4 : Obj} (hz : w0.heap[g]? = some (.cells #[a, b, c, d, e] t (0, 0))) (hg : g < w0.heap.size)
    (hres : ∀ w : World, w.cell? ⟨g, 0, none⟩ = some (.int .i64 1) → w.cell? ⟨g, 1, none⟩ = some (.slice (some ⟨b1, 0, none⟩) n n) → w.cell? ⟨g, 2, none⟩ = some (.slice (some ⟨b2, 0, none⟩) n n) → w.cell? ⟨g, 3, none⟩ = some (.slice (some ⟨b3, 0, none⟩) n n) → w.cell? ⟨g, 4, none⟩ = some (.slice (some ⟨b4, 0, none⟩) n n) →
      (results f T).run P w = .ok (.tuple #[.agg #[.int .i64 1, .slice (some ⟨b1, 0, none⟩) n n, .slice (some ⟨b2, 0, none⟩) n n, .slice (some ⟨b3, 0, none⟩) n n, .slice (some ⟨b4, 0, none⟩) n n], .int .i64 0]) w)
    (hpost : ∀ W : World, W.heap.size = w0.heap.size → (∀ B, B ≤ g → Below B w0 W) → post (.returned (.tuple #[.agg #[.int .i64 1, .slice (some ⟨b1, 0, none⟩) n n, .slice (some ⟨b2, 0, none⟩) n n, .slice (some ⟨b3, 0, none⟩) n n, .slice (some ⟨b4, 0, none⟩) n n], .int .i64 0])) (((((W.alloc o1).alloc o2).alloc o3).alloc o4).drew)) :
    bodyPost P f post .ret { tmps := T, defers := [] } ((((((((((w0.setCell ⟨g, 0, none⟩ (.int .i64 1)).setCell ⟨g, 1, none⟩ (.slice (some ⟨b1, 0, none⟩) n n)).setCell ⟨g, 2, none⟩ (.slice (some ⟨b2, 0, none⟩) n n)).setCell ⟨g, 3, none⟩ (.slice (some ⟨b3, 0, none⟩) n n)).setCell ⟨g, 4, none⟩ (.slice (some ⟨b4, 0, none⟩) n n)).alloc o1).alloc o2).alloc o3).alloc o4).drew) := by
  have hz5 := box5 (x := .int .i64 1) (y := .slice (some ⟨b1, 0, none⟩) n n) (z := .slice (some ⟨b2, 0, none⟩) n n) (u := .slice (some ⟨b3, 0, none⟩) n n) (v := .slice (some ⟨b4, 0, none⟩) n n) hz
  have hb := fun B (hB : B ≤ g) => box5_below (x := .int .i64 1) (y := .slice (some ⟨b1, 0, none⟩) n n) (z := .slice (some ⟨b2, 0, none⟩) n n) (u := .slice (some ⟨b3, 0, none⟩) n n) (v := .slice (some ⟨b4, 0, none⟩) n n) (Below.refl B w0) hB
  have hs : (((((w0.setCell ⟨g, 0, none⟩ (.int .i64 1)).setCell ⟨g, 1, none⟩ (.slice (some ⟨b1, 0, none⟩) n n)).setCell ⟨g, 2, none⟩ (.slice (some ⟨b2, 0, none⟩) n n)).setCell ⟨g, 3, none⟩ (.slice (some ⟨b3, 0, none⟩) n n)).setCell ⟨g, 4, none⟩ (.slice (some ⟨b4, 0, none⟩) n n)).heap.size = w0.heap.size := by simp [World.setCell]
  generalize (((((w0.setCell ⟨g, 0, none⟩ (.int .i64 1)).setCell ⟨g, 1, none⟩ (.slice (some ⟨b1, 0, none⟩) n n)).setCell ⟨g, 2, none⟩ (.slice (some ⟨b2, 0, none⟩) n n)).setCell ⟨g, 3, none⟩ (.slice (some ⟨b3, 0, none⟩) n n)).setCell ⟨g, 4, none⟩ (.slice (some ⟨b4, 0, none⟩) n n)) = W at *
  have hz6 : (((((W.alloc o1).alloc o2).alloc o3).alloc o4).drew).heap[g]? = some (.cells #[.int .i64 1, .slice (some ⟨b1, 0, none⟩) n n, .slice (some ⟨b2, 0, none⟩) n n, .slice (some ⟨b3, 0, none⟩) n n, .slice (some ⟨b4, 0, none⟩) n n] t (0, 0)) :=
    (Below.heap_alloc _ o4 _ (by simp; omega)).trans ((Below.heap_alloc _ o3 _ (by simp; omega)).trans ((Below.heap_alloc _ o2 _ (by simp; omega)).trans ((Below.heap_alloc _ o1 _ (by omega)).trans hz5)))
  exact bodyPost_ret (hres _ (cell_of_row _ _ 0 _ _ _ hz6) (cell_of_row _ _ 1 _ _ _ hz6) (cell_of_row _ _ 2 _ _ _ hz6) (cell_of_row _ _ 3 _ _ _ hz6) (cell_of_row _ _ 4 _ _ _ hz6)) rfl (hpost W hs hb)
theorem own_p1 {W : World} {b base n : Nat} {t : TypeId} {cs : Array Value} {o2 o3 o4 : Obj} (hb : b = W.heap.size) (hbase : base ≤ W.heap.size) (hn : cs.size = n) (hm : n ≤ maxLen) : (((((W.alloc (.cells cs t)).alloc o2).alloc o3).alloc o4).drew).ownsRow base t 1 (.slice (some ⟨b, 0, none⟩) n n) n cs.toList := by
  subst hb
  exact ((((World.ownsRow_lit W cs n hbase hm (by omega)).alloc o2).alloc o3).alloc o4).drew
theorem own_p2 {W : World} {b base n : Nat} {t : TypeId} {cs : Array Value} {o1 o3 o4 : Obj} (hb : b = W.heap.size + 1) (hbase : base ≤ W.heap.size) (hn : cs.size = n) (hm : n ≤ maxLen) : (((((W.alloc o1).alloc (.cells cs t)).alloc o3).alloc o4).drew).ownsRow base t 1 (.slice (some ⟨b, 0, none⟩) n n) n cs.toList := by
  have h : b = (W.alloc o1).heap.size := by simp; omega
  subst h
  exact (((World.ownsRow_lit (W.alloc o1) cs n (by simp; omega) hm (by omega)).alloc o3).alloc o4).drew
theorem own_p3 {W : World} {b base n : Nat} {t : TypeId} {cs : Array Value} {o1 o2 o4 : Obj} (hb : b = W.heap.size + 2) (hbase : base ≤ W.heap.size) (hn : cs.size = n) (hm : n ≤ maxLen) : (((((W.alloc o1).alloc o2).alloc (.cells cs t)).alloc o4).drew).ownsRow base t 1 (.slice (some ⟨b, 0, none⟩) n n) n cs.toList := by
  have h : b = ((W.alloc o1).alloc o2).heap.size := by simp; omega
  subst h
  exact ((World.ownsRow_lit ((W.alloc o1).alloc o2) cs n (by simp; omega) hm (by omega)).alloc o4).drew
theorem own_p4 {W : World} {b base n : Nat} {t : TypeId} {cs : Array Value} {o1 o2 o3 : Obj} (hb : b = W.heap.size + 3) (hbase : base ≤ W.heap.size) (hn : cs.size = n) (hm : n ≤ maxLen) : (((((W.alloc o1).alloc o2).alloc o3).alloc (.cells cs t)).drew).ownsRow base t 1 (.slice (some ⟨b, 0, none⟩) n n) n cs.toList := by
  have h : b = (((W.alloc o1).alloc o2).alloc o3).heap.size := by simp; omega
  subst h
  exact (World.ownsRow_lit (((W.alloc o1).alloc o2).alloc o3) cs n (by simp; omega) hm (by omega)).drew
theorem Apart.blocks {b c n m p r : Nat} (h : b ≠ c) : Apart (.slice (some ⟨b, 0, none⟩) n p) (.slice (some ⟨c, 0, none⟩) m r) := fun k h1 h2 => by
  simp [Value.ownBlock] at h1 h2
  omega

end Go.Proofs.Ytjmbdfoegnfpnaa
