/- Plans: what is right of them, where they lie. -/
import Derived.Test.YtjmbdfoegnfpnaaJ1
namespace Go.Proofs.Ytjmbdfoegnfpnaa
open Go.RowKit
set_option linter.unusedVariables false
set_option linter.unusedSimpArgs false

/-- A plan. -/
structure Pl where
  ws : List Int
  ls : List Int
  ss : List Int
  le : Int
  ra : Int
/-- Where its lists lie. -/
structure PlV where
  a1 : Option Addr
  c1 : Nat
  a2 : Option Addr
  c2 : Nat
  a3 : Option Addr
  c3 : Nat
structure PlAt (w : World) (p : PlV) (q : Pl) : Prop where
  s1 : Sl w p.a1 p.c1 (q.ws.map (.int .i64))
  s2 : Sl w p.a2 p.c2 (q.ls.map (.int .i64))
  s3 : Sl w p.a3 p.c3 (q.ss.map (.int .i64))
theorem PlAt.below {w w' : World} {p : PlV} {q : Pl} (h : PlAt w p q) (hb : Below w.heap.size w w') : PlAt w' p q := ⟨h.s1.below hb, h.s2.below hb, h.s3.below hb⟩
/-- The limits ascend, up to number k. -/
def ascN (l : List Int) (k : Nat) : Bool := (List.range k).all fun i => decide (i = 0) || decide (l.getD (i - 1) 0 < l.getD i 0)
def planB (q : Pl) : Bool := decide (1 ≤ q.ws.length) && decide (q.ws.length ≤ 6) && !q.ws.any (outP 0 100) && decide (q.ls.length ≤ 5) && !q.ls.any (outP 1 60000) && decide (q.ss.length = q.ls.length + 1) && !q.ss.any (outP 0 1000) && !outP 0 60 q.le && !outP 0 1000 q.ra && ascN q.ls q.ls.length
def checkP (q : Pl) : Int := if planB q then 0 else 64
theorem ascN_succ (l : List Int) (k : Nat) : ascN l (k + 1) = (ascN l k && (decide (k = 0) || decide (l.getD (k - 1) 0 < l.getD k 0))) := by simp [ascN, List.range_succ]
theorem ascN_bad {l : List Int} {k n : Nat} (hk : k < n) (h0 : k ≠ 0) (h : ¬ l.getD (k - 1) 0 < l.getD k 0) : ascN l n = false := by
  unfold ascN
  rw [List.all_eq_false]
  refine ⟨k, List.mem_range.2 hk, ?_⟩
  rw [decide_eq_false h0, decide_eq_false h]
  simp
def PLW (w : World) (p : PlV) (q : Pl) : World := w.alloc (.cells #[.slice p.a1 q.ws.length p.c1, .slice p.a2 q.ls.length p.c2, .slice p.a3 q.ss.length p.c3, .int .i64 q.le, .int .i64 q.ra] 24)
end Go.Proofs.Ytjmbdfoegnfpnaa
