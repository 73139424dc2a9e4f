/- Two draws in two blocks, beside two rows. -/
import Derived.Test.YtbkkmgofjhaaoaaEu
namespace Go.Proofs.Ytbkkmgofjhaaoaa
open Go.RowKit
set_option linter.unusedVariables false
set_option linter.unusedSimpArgs false

structure OS (w W : World) (G X Y : Nat) (qx : DV) (dx : Dr) (qy : DV) (dy : Dr) (u v : Value) (l k : List Int) : Prop where
  bel : Below w.heap.size w W
  o1 : W.ownsRow G 27 1 u l.length (l.map (.int .u64))
  o2 : W.ownsRow G 27 1 v k.length (k.map (.int .u64))
  bx : W.heap[X]? = some (.cells #[.int .i64 dx.st, .slice qx.a1 dx.se.length qx.c1, .slice qx.a2 dx.sd.length qx.c2, .slice qx.a3 dx.sx.length qx.c3, .slice qx.a4 dx.rv.length qx.c4] 26 (0, 0))
  bY : W.heap[Y]? = some (.cells #[.int .i64 dy.st, .slice qy.a1 dy.se.length qy.c1, .slice qy.a2 dy.sd.length qy.c2, .slice qy.a3 dy.sx.length qy.c3, .slice qy.a4 dy.rv.length qy.c4] 26 (0, 0))
  rx : OwnD W w.heap.size qx dx
  ry : OwnD W w.heap.size qy dy
  fxx : Free qx dx X
  fxy : Free qx dx Y
  fyx : Free qy dy X
  fyy : Free qy dy Y
  uX : u.ownBlock ≠ some X
  uY : u.ownBlock ≠ some Y
  vX : v.ownBlock ≠ some X
  vY : v.ownBlock ≠ some Y
  hX : w.heap.size ≤ X
  XY : X < Y
  YW : Y < W.heap.size
section
variable {w W W' : World} {G X Y : Nat} {qx qy q' : DV} {dx dy d' : Dr} {u v : Value} {l k : List Int}
theorem OS.below (h : OS w W G X Y qx dx qy dy u v l k) (hb : Below W.heap.size W W') : OS w W' G X Y qx dx qy dy u v l k := by
  have h1 := h.YW
  have h2 := h.XY
  exact ⟨h.bel.trans (hb.mono h.bel.size), ownsRow_below h.o1 hb, ownsRow_below h.o2 hb, (hb.block _ (by omega)).trans h.bx, (hb.block _ h1).trans h.bY, h.rx.below hb, h.ry.below hb, h.fxx, h.fxy, h.fyx, h.fyy, h.uX, h.uY, h.vX, h.vY, h.hX, h.XY, Nat.lt_of_lt_of_le h1 hb.size⟩
theorem OS.putX (h : OS w W G X Y qx dx qy dy u v l k) (hb : Below W.heap.size W W') (ho : OwnD W' W.heap.size q' d') :
    OS w (((((W'.setCell ⟨X, 0, none⟩ (.int .i64 d'.st)).setCell ⟨X, 1, none⟩ (.slice q'.a1 d'.se.length q'.c1)).setCell ⟨X, 2, none⟩ (.slice q'.a2 d'.sd.length q'.c2)).setCell ⟨X, 3, none⟩ (.slice q'.a3 d'.sx.length q'.c3)).setCell ⟨X, 4, none⟩ (.slice q'.a4 d'.rv.length q'.c4)) G X Y q' d' qy dy u v l k := by
  have h' := h.below hb
  have h1 := h.YW
  have h2 := h.XY
  have h3 := h.hX
  have hsz := h.bel.size
  exact ⟨box5_below h'.bel h3, own_only h'.o1 box5_only h.uX, own_only h'.o2 box5_only h.vX, box5 h'.bx, (World.grownBy.block box5_only _ h'.YW (fun e => by injection e with e; omega)).trans h'.bY, (ho.old box5_only (by omega)).rebase hsz, h'.ry.free box5_only h.fyx, Free.old ho (by omega), Free.old ho (by omega), h.fyx, h.fyy, h.uX, h.uY, h.vX, h.vY, h3, h2, Nat.lt_of_lt_of_le h'.YW (World.grownBy.size box5_only)⟩
theorem OS.putY (h : OS w W G X Y qx dx qy dy u v l k) (hb : Below W.heap.size W W') (ho : OwnD W' W.heap.size q' d') :
    OS w (((((W'.setCell ⟨Y, 0, none⟩ (.int .i64 d'.st)).setCell ⟨Y, 1, none⟩ (.slice q'.a1 d'.se.length q'.c1)).setCell ⟨Y, 2, none⟩ (.slice q'.a2 d'.sd.length q'.c2)).setCell ⟨Y, 3, none⟩ (.slice q'.a3 d'.sx.length q'.c3)).setCell ⟨Y, 4, none⟩ (.slice q'.a4 d'.rv.length q'.c4)) G X Y qx dx q' d' u v l k := by
  have h' := h.below hb
  have h1 := h.YW
  have h2 := h.XY
  have h3 := h.hX
  have hsz := h.bel.size
  exact ⟨box5_below h'.bel (by omega), own_only h'.o1 box5_only h.uY, own_only h'.o2 box5_only h.vY, (World.grownBy.block box5_only _ (by have := h'.YW; omega) (fun e => by injection e with e; omega)).trans h'.bx, box5 h'.bY, h'.rx.free box5_only h.fxy, (ho.old box5_only (by omega)).rebase hsz, h.fxx, h.fxy, Free.old ho (by omega), Free.old ho (by omega), h.uX, h.uY, h.vX, h.vY, h3, h2, Nat.lt_of_lt_of_le h'.YW (World.grownBy.size box5_only)⟩
end
end Go.Proofs.Ytbkkmgofjhaaoaa
