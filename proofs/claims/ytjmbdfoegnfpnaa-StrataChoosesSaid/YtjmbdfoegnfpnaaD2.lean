/- Contracts: Check (draw, and its reference), usable. -/
import Derived.Test.YtjmbdfoegnfpnaaD1
import Derived.Test.YtjmbdfoegnfpnaaQ
namespace Go.Proofs.Ytjmbdfoegnfpnaa
open Go.RowKit
set_option linter.unusedVariables false
set_option linter.unusedSimpArgs false

/-- A draw. -/
structure Dr where
  st : Int
  se : List Int
  sd : List Bool
  sx : List Int
  rv : List Bool
  deriving DecidableEq
/-- Where the lists of a draw lie. -/
structure DV where
  a1 : Option Addr
  c1 : Nat
  a2 : Option Addr
  c2 : Nat
  a3 : Option Addr
  c3 : Nat
  a4 : Option Addr
  c4 : Nat
/-- A slice of cells of one word. -/
structure Sl (w : World) (A : Option Addr) (c : Nat) (xs : List Value) : Prop where
  cap : xs.length ≤ c
  top : c ≤ maxLen
  lies : Lies w A xs.length xs
theorem Sl.below {w w' : World} {A : Option Addr} {c : Nat} {xs : List Value} (h : Sl w A c xs) (hb : Below w.heap.size w w') : Sl w' A c xs := ⟨h.cap, h.top, h.lies.below hb⟩
theorem Sl.at {w : World} {A : Option Addr} {c : Nat} {α : Type} {f : α → Value} {l : List α} (h : Sl w A c (l.map f)) (i : Nat) (hi : i < l.length) : ∃ b off, A = some ⟨b, off, none⟩ ∧ b < w.heap.size ∧ w.cell? ⟨b, off + i, none⟩ = some (f l[i]) := by
  obtain ⟨b, off, e, hb, hc⟩ := h.lies.resolve_left (by rw [List.length_map]; omega)
  exact ⟨b, off, e, hb, hc i _ (by simp [hi])⟩
structure DrAt (w : World) (p : DV) (d : Dr) : Prop where
  s1 : Sl w p.a1 p.c1 (d.se.map (.int .u64))
  s2 : Sl w p.a2 p.c2 (d.sd.map .bool)
  s3 : Sl w p.a3 p.c3 (d.sx.map (.int .u64))
  s4 : Sl w p.a4 p.c4 (d.rv.map .bool)
theorem DrAt.below {w w' : World} {p : DV} {d : Dr} (h : DrAt w p d) (hb : Below w.heap.size w w') : DrAt w' p d := ⟨h.s1.below hb, h.s2.below hb, h.s3.below hb, h.s4.below hb⟩
def badAt (st a : Int) (b : Bool) (x : Int) (r : Bool) : Bool := (r && (!b || decide (st = 1))) || (!b && decide (a ≠ 0)) || (!r && decide (x ≠ 0))
def badD (d : Dr) (i : Nat) : Bool := badAt d.st (d.se.getD i 0) (d.sd.getD i false) (d.sx.getD i 0) (d.rv.getD i false)
/-- The form of a draw: its state and its lengths. -/
def formD (d : Dr) : Bool := decide (1 ≤ d.st) && decide (d.st ≤ 3) && decide (1 ≤ d.se.length) && decide (d.se.length ≤ 5) && decide (d.sd.length = d.se.length) && decide (d.sx.length = d.se.length) && decide (d.rv.length = d.se.length)
def checkD (d : Dr) : Int := if formD d then (if (List.range d.se.length).any (badD d) then 22 else 0) else 22
theorem any_range_succ (p : Nat → Bool) (k : Nat) : (List.range (k + 1)).any p = ((List.range k).any p || p k) := by
  rw [List.range_succ, List.any_append]; simp

end Go.Proofs.Ytjmbdfoegnfpnaa
