/- Two rows that grow beside a tape; a draw in a block beside them. -/
import Derived.Test.YtbkkmgofjhaaoaaE1
import Derived.Test.YtbkkmgofjhaaoaaE2
import Derived.Test.YtbkkmgofjhaaoaaEg
import Derived.Test.YtbkkmgofjhaaoaaEp
namespace Go.Proofs.Ytbkkmgofjhaaoaa
open Go.RowKit
set_option linter.unusedVariables false
set_option linter.unusedSimpArgs false

structure TS (w W : World) (g G : Nat) (u v : Value) (l k r : List Int) : Prop where
  o1 : W.ownsRow G 27 1 u l.length (l.map (.int .u64))
  o2 : W.ownsRow G 27 1 v k.length (k.map (.int .u64))
  ap : Apart u v
  tp : TapeAt W g r
  bel : Below w.heap.size w W
  hg : w.heap.size ≤ g
  gG : g < G
  GW : G ≤ W.heap.size
section
variable {w W W' : World} {g G : Nat} {u v : Value} {l k r : List Int}
theorem TS.below (h : TS w W g G u v l k r) (hb : Below W.heap.size W W') : TS w W' g G u v l k r :=
  ⟨ownsRow_below h.o1 hb, ownsRow_below h.o2 hb, h.ap, h.tp.below hb (Nat.lt_of_lt_of_le h.gG h.GW), h.bel.trans (hb.mono h.bel.size), h.hg, h.gG, Nat.le_trans h.GW hb.size⟩
theorem TS.alloc (h : TS w W g G u v l k r) (o : Obj) : TS w (W.alloc o) g G u v l k r := h.below ((Below.refl _ _).alloc (Nat.le_refl _) o)
theorem TS.tape {r' : List Int} (h : TS w W g G u v l k r) (hn : W.grownBy W' (some g)) (ht : TapeAt W' g r') : TS w W' g G u v l k r' :=
  ⟨ownsRow_only h.o1 hn h.gG, ownsRow_only h.o2 hn h.gG, h.ap, ht, below_only h.bel hn h.hg h.bel.size, h.hg, h.gG, Nat.le_trans h.GW hn.size⟩
theorem TS.swap (h : TS w W g G u v l k r) : TS w W g G v u k l r := ⟨h.o2, h.o1, h.ap.symm, h.tp, h.bel, h.hg, h.gG, h.GW⟩
theorem TS.app1 {u' : Value} {x : Int} (h : TS w W g G u v l k r) (ho : W'.ownsRow G 27 1 u' (l.length + 1) (l.map (.int .u64) ++ [.int .u64 x])) (hn : W.grownBy W' u.ownBlock) (hat : u'.ownBlock = u.ownBlock ∨ u'.ownBlock = some W.heap.size) : TS w W' g G u' v (l ++ [x]) k r := by
  have hb := own_base h.o1
  have hgG := h.gG
  have hwg := h.hg
  have hGW := h.GW
  refine ⟨by rw [List.length_append, List.map_append]; exact ho, own_apart h.o2 hn h.ap, ?_, h.tp.grown hn (fun y hy => by have := hb y hy; omega), Below.grown h.bel hn h.bel.size (fun y hy => by have := hb y hy; omega), hwg, hgG, Nat.le_trans hGW hn.size⟩
  intro y hy1 hy2
  rcases hat with e | e
  · exact h.ap y (by rw [← e]; exact hy1) hy2
  · rw [e] at hy1
    injection hy1 with hy1
    have := h.o2.lt y hy2
    omega
theorem TS.app2 {v' : Value} {x : Int} (h : TS w W g G u v l k r) (ho : W'.ownsRow G 27 1 v' (k.length + 1) (k.map (.int .u64) ++ [.int .u64 x])) (hn : W.grownBy W' v.ownBlock) (hat : v'.ownBlock = v.ownBlock ∨ v'.ownBlock = some W.heap.size) : TS w W' g G u v' l (k ++ [x]) r :=
  (h.swap.app1 ho hn hat).swap
theorem TS.old {X : Nat} (h : TS w W g G u v l k r) (hn : W.grownBy W' (some X)) (hX : w.heap.size ≤ X) (hXg : g < X) (hu : u.ownBlock ≠ some X) (hv : v.ownBlock ≠ some X) : TS w W' g G u v l k r :=
  ⟨own_only h.o1 hn hu, own_only h.o2 hn hv, h.ap, h.tp.grown hn (fun y hy => by injection hy with hy; omega), below_only h.bel hn hX h.bel.size, h.hg, h.gG, Nat.le_trans h.GW hn.size⟩
end

/-- No row of the draw lies in block X. -/
def Free (q : DV) (d : Dr) (X : Nat) : Prop := (Value.slice q.a1 d.se.length q.c1).ownBlock ≠ some X ∧ (Value.slice q.a2 d.sd.length q.c2).ownBlock ≠ some X ∧ (Value.slice q.a3 d.sx.length q.c3).ownBlock ≠ some X ∧ (Value.slice q.a4 d.rv.length q.c4).ownBlock ≠ some X
theorem Free.old {w : World} {base X : Nat} {q : DV} {d : Dr} (h : OwnD w base q d) (hX : X < base) : Free q d X :=
  ⟨fun e => by have := own_base h.o1 _ e; omega, fun e => by have := own_base h.o2 _ e; omega, fun e => by have := own_base h.o3 _ e; omega, fun e => by have := own_base h.o4 _ e; omega⟩
theorem Free.young {w : World} {base X : Nat} {q : DV} {d : Dr} (h : OwnD w base q d) (hX : w.heap.size ≤ X) : Free q d X :=
  ⟨fun e => by have := h.o1.lt _ e; omega, fun e => by have := h.o2.lt _ e; omega, fun e => by have := h.o3.lt _ e; omega, fun e => by have := h.o4.lt _ e; omega⟩
theorem OwnD.free {w w' : World} {base X : Nat} {q : DV} {d : Dr} (h : OwnD w base q d) (hg : w.grownBy w' (some X)) (hf : Free q d X) : OwnD w' base q d := h.only hg hf.1 hf.2.1 hf.2.2.1 hf.2.2.2
/-- What changes the row u alone, if it is none of the draw's. -/
theorem OwnD.row {w w' : World} {base : Nat} {q : DV} {d : Dr} {u : Value} (h : OwnD w base q d) (hn : w.grownBy w' u.ownBlock) (hf : ∀ x, u.ownBlock = some x → Free q d x) : OwnD w' base q d := by
  rcases hu : u.ownBlock with _ | y
  · rw [hu] at hn
    exact h.keep (fun b hb _ => hn.block b hb (by simp))
  · rw [hu] at hn
    exact h.free hn (hf y hu)

/-- .. and a draw in a block. -/
structure MS (w W : World) (g B : Nat) (q : DV) (d : Dr) (u v : Value) (l k r : List Int) : Prop where
  ts : TS w W g (B + 1) u v l k r
  blk : W.heap[B]? = some (.cells #[.int .i64 d.st, .slice q.a1 d.se.length q.c1, .slice q.a2 d.sd.length q.c2, .slice q.a3 d.sx.length q.c3, .slice q.a4 d.rv.length q.c4] 26 (0, 0))
  dr : OwnD W w.heap.size q d
  fB : Free q d B
  fu : ∀ x, u.ownBlock = some x → Free q d x
  fv : ∀ x, v.ownBlock = some x → Free q d x
  gB : g < B
  fg : Free q d g
section
variable {w W W' : World} {g B : Nat} {q q' : DV} {d d' : Dr} {u v : Value} {l k r : List Int}
theorem MS.lt (h : MS w W g B q d u v l k r) : B < W.heap.size := by have := h.ts.GW; omega
theorem MS.below (h : MS w W g B q d u v l k r) (hb : Below W.heap.size W W') : MS w W' g B q d u v l k r :=
  ⟨h.ts.below hb, (hb.block _ h.lt).trans h.blk, h.dr.below hb, h.fB, h.fu, h.fv, h.gB, h.fg⟩
theorem MS.alloc (h : MS w W g B q d u v l k r) (o : Obj) : MS w (W.alloc o) g B q d u v l k r := h.below ((Below.refl _ _).alloc (Nat.le_refl _) o)
theorem MS.tape {r' : List Int} (h : MS w W g B q d u v l k r) (hn : W.grownBy W' (some g)) (ht : TapeAt W' g r') : MS w W' g B q d u v l k r' :=
  ⟨h.ts.tape hn ht, (hn.block _ h.lt (fun e => by injection e with e; have := h.gB; omega)).trans h.blk, h.dr.free hn h.fg, h.fB, h.fu, h.fv, h.gB, h.fg⟩
theorem MS.swap (h : MS w W g B q d u v l k r) : MS w W g B q d v u k l r := ⟨h.ts.swap, h.blk, h.dr, h.fB, h.fv, h.fu, h.gB, h.fg⟩
theorem MS.app1 {u' : Value} {x : Int} (h : MS w W g B q d u v l k r) (ho : W'.ownsRow (B + 1) 27 1 u' (l.length + 1) (l.map (.int .u64) ++ [.int .u64 x])) (hn : W.grownBy W' u.ownBlock) (hat : u'.ownBlock = u.ownBlock ∨ u'.ownBlock = some W.heap.size) : MS w W' g B q d u' v (l ++ [x]) k r := by
  have hb := own_base h.ts.o1
  refine ⟨h.ts.app1 ho hn hat, (hn.block _ h.lt (fun e => by have := hb _ e.symm; omega)).trans h.blk, h.dr.row hn h.fu, h.fB, fun x hx => ?_, h.fv, h.gB, h.fg⟩
  rcases hat with e | e
  · exact h.fu x (by rw [← e]; exact hx)
  · rw [e] at hx
    injection hx with hx
    subst hx
    exact Free.young h.dr (Nat.le_refl _)
theorem MS.app2 {v' : Value} {x : Int} (h : MS w W g B q d u v l k r) (ho : W'.ownsRow (B + 1) 27 1 v' (k.length + 1) (k.map (.int .u64) ++ [.int .u64 x])) (hn : W.grownBy W' v.ownBlock) (hat : v'.ownBlock = v.ownBlock ∨ v'.ownBlock = some W.heap.size) : MS w W' g B q d u v' l (k ++ [x]) r :=
  (h.swap.app1 ho hn hat).swap
/-- A draw of its own is stored in the block. -/
theorem MS.put (h : MS w W g B q d u v l k r) (hb : Below W.heap.size W W') (ho : OwnD W' W.heap.size q' d') :
    MS w (((((W'.setCell ⟨B, 0, none⟩ (.int .i64 d'.st)).setCell ⟨B, 1, none⟩ (.slice q'.a1 d'.se.length q'.c1)).setCell ⟨B, 2, none⟩ (.slice q'.a2 d'.sd.length q'.c2)).setCell ⟨B, 3, none⟩ (.slice q'.a3 d'.sx.length q'.c3)).setCell ⟨B, 4, none⟩ (.slice q'.a4 d'.rv.length q'.c4)) g B q' d' u v l k r := by
  have h' := h.below hb
  have hlt := h.lt
  have hwg := h.ts.hg
  have hgB := h.gB
  have hsz := h.ts.bel.size
  refine ⟨h'.ts.old box5_only (by omega) hgB (fun e => by have := own_base h.ts.o1 _ e; omega) (fun e => by have := own_base h.ts.o2 _ e; omega), box5 h'.blk, (ho.old box5_only hlt).rebase hsz, Free.old ho hlt, fun x hx => Free.old ho (h.ts.o1.lt x hx).2, fun x hx => Free.old ho (h.ts.o2.lt x hx).2, hgB, Free.old ho (by omega)⟩
end
/-- .. and a third row, younger than the two. -/
structure MW (w W : World) (g B H : Nat) (q : DV) (d : Dr) (u v y : Value) (l k m r : List Int) : Prop where
  ms : MS w W g B q d u v l k r
  ow : W.ownsRow H 3 1 y m.length (m.map (.int .i64))
  fy : ∀ x, y.ownBlock = some x → Free q d x
  hu : ∀ x, u.ownBlock = some x → x < H
  hv : ∀ x, v.ownBlock = some x → x < H
  BH : B < H
  HW : H ≤ W.heap.size
section
variable {w W W' : World} {g B H : Nat} {q q' : DV} {d d' : Dr} {u v y : Value} {l k m r : List Int}
theorem MW.below (h : MW w W g B H q d u v y l k m r) (hb : Below W.heap.size W W') : MW w W' g B H q d u v y l k m r := ⟨h.ms.below hb, ownsRow_below h.ow hb, h.fy, h.hu, h.hv, h.BH, Nat.le_trans h.HW hb.size⟩
theorem MW.alloc (h : MW w W g B H q d u v y l k m r) (o : Obj) : MW w (W.alloc o) g B H q d u v y l k m r := h.below ((Below.refl _ _).alloc (Nat.le_refl _) o)
theorem MW.tape {r' : List Int} (h : MW w W g B H q d u v y l k m r) (hn : W.grownBy W' (some g)) (ht : TapeAt W' g r') : MW w W' g B H q d u v y l k m r' :=
  ⟨h.ms.tape hn ht, ownsRow_only h.ow hn (by have := h.ms.gB; have := h.BH; omega), h.fy, h.hu, h.hv, h.BH, Nat.le_trans h.HW hn.size⟩
theorem MW.app {y' : Value} {x : Int} (h : MW w W g B H q d u v y l k m r) (ho : W'.ownsRow H 3 1 y' (m.length + 1) (m.map (.int .i64) ++ [.int .i64 x])) (hn : W.grownBy W' y.ownBlock) (hat : y'.ownBlock = y.ownBlock ∨ y'.ownBlock = some W.heap.size) : MW w W' g B H q d u v y' l k (m ++ [x]) r := by
  have hb := own_base h.ow
  have hBH := h.BH
  have hgB := h.ms.gB
  have hwg := h.ms.ts.hg
  have hts := h.ms.ts
  have aps : ∀ z : Value, (∀ x, z.ownBlock = some x → x < H) → Apart y z := fun z hz k hk1 hk2 => by have := hb k hk1; have := hz k hk2; omega
  have ts' : TS w W' g (B + 1) u v l k r := ⟨own_apart hts.o1 hn (aps u h.hu), own_apart hts.o2 hn (aps v h.hv), hts.ap, hts.tp.grown hn (fun z hz => by have := hb z hz; omega), Below.grown hts.bel hn hts.bel.size (fun z hz => by have := hb z hz; omega), hts.hg, hts.gG, Nat.le_trans hts.GW hn.size⟩
  refine ⟨⟨ts', (hn.block _ h.ms.lt (fun e => by have := hb _ e.symm; omega)).trans h.ms.blk, h.ms.dr.row hn h.fy, h.ms.fB, h.ms.fu, h.ms.fv, hgB, h.ms.fg⟩, by rw [List.length_append, List.map_append]; exact ho, fun x hx => ?_, h.hu, h.hv, hBH, Nat.le_trans h.HW hn.size⟩
  rcases hat with e | e
  · exact h.fy x (by rw [← e]; exact hx)
  · rw [e] at hx
    injection hx with hx
    subst hx
    exact Free.young h.ms.dr (Nat.le_refl _)
theorem MW.put (h : MW w W g B H q d u v y l k m r) (hb : Below W.heap.size W W') (ho : OwnD W' W.heap.size q' d') :
    MW w (((((W'.setCell ⟨B, 0, none⟩ (.int .i64 d'.st)).setCell ⟨B, 1, none⟩ (.slice q'.a1 d'.se.length q'.c1)).setCell ⟨B, 2, none⟩ (.slice q'.a2 d'.sd.length q'.c2)).setCell ⟨B, 3, none⟩ (.slice q'.a3 d'.sx.length q'.c3)).setCell ⟨B, 4, none⟩ (.slice q'.a4 d'.rv.length q'.c4)) g B H q' d' u v y l k m r :=
  ⟨h.ms.put hb ho, ownsRow_only (ownsRow_below h.ow hb) box5_only h.BH, fun x hx => Free.old ho (h.ow.lt x hx).2, h.hu, h.hv, h.BH, Nat.le_trans h.HW (Nat.le_trans hb.size (World.grownBy.size box5_only))⟩
end
/-- The cells of a draw in a block. -/
structure DC (W : World) (B : Nat) (q : DV) (d : Dr) : Prop where
  c0 : W.cell? ⟨B, 0, none⟩ = some (.int .i64 d.st)
  c1 : W.cell? ⟨B, 1, none⟩ = some (.slice q.a1 d.se.length q.c1)
  c2 : W.cell? ⟨B, 2, none⟩ = some (.slice q.a2 d.sd.length q.c2)
  c3 : W.cell? ⟨B, 3, none⟩ = some (.slice q.a3 d.sx.length q.c3)
  c4 : W.cell? ⟨B, 4, none⟩ = some (.slice q.a4 d.rv.length q.c4)
  f : ∀ j, W.frozen? ⟨B, j, none⟩ = false
theorem DC.of {W : World} {B : Nat} {q : DV} {d : Dr} {t : TypeId} (h : W.heap[B]? = some (.cells #[.int .i64 d.st, .slice q.a1 d.se.length q.c1, .slice q.a2 d.sd.length q.c2, .slice q.a3 d.sx.length q.c3, .slice q.a4 d.rv.length q.c4] t (0, 0))) : DC W B q d :=
  ⟨cell_of_row W B 0 _ _ _ h, cell_of_row W B 1 _ _ _ h, cell_of_row W B 2 _ _ _ h, cell_of_row W B 3 _ _ _ h, cell_of_row W B 4 _ _ _ h, fun j => frozen_of_row W B j _ _ h⟩
/-- A cell of a row of one's own. -/
theorem own_cell {W : World} {base b n c m : Nat} {l : List Int} {t : TypeId} {κ : IntKind} (h : W.ownsRow base t 1 (.slice (some ⟨b, 0, none⟩) n c) n (l.map (.int κ))) (hm : m < l.length) : W.cell? ⟨b, m, none⟩ = some (.int κ l[m]) := by
  have := World.ownsRow.cells (g := b) h rfl m (.int κ l[m]) (by simp [hm])
  rwa [add_none, Nat.zero_add] at this
theorem own_last {W : World} {base b n c N : Nat} {l : List Int} {x : Int} {t : TypeId} {κ : IntKind} (h : W.ownsRow base t 1 (.slice (some ⟨b, 0, none⟩) N c) n ((l ++ [x]).map (.int κ))) : W.cell? ⟨b, l.length, none⟩ = some (.int κ x) := by
  have := World.ownsRow.cells (g := b) h rfl l.length (.int κ x) (by simp)
  rwa [add_none, Nat.zero_add] at this
theorem own_nth {W : World} {base b n c N m : Nat} {l : List Int} {t : TypeId} {κ : IntKind} (h : W.ownsRow base t 1 (.slice (some ⟨b, 0, none⟩) N c) n (l.map (.int κ))) (hm : m < l.length) : W.cell? ⟨b, m, none⟩ = some (.int κ (l.getD m 0)) := by
  have := World.ownsRow.cells (g := b) h rfl m (.int κ (l.getD m 0)) (by simp [List.getD_eq_getElem?_getD, hm])
  rwa [add_none, Nat.zero_add] at this
end Go.Proofs.Ytbkkmgofjhaaoaa
