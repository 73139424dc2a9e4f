/- Contract: edges (the reference of outlines). -/
import Derived.Test.YtpcfhcdbibklcaaGreatBh
import Derived.Test.YtpcfhcdbibklcaaGreatHA
namespace Go.Proofs.YtpcfhcdbibklcaaGreat
open Go.RowKit
set_option linter.unusedVariables false
set_option linter.unusedSimpArgs false

theorem Tryz.infoEdge5 : (Tryz.prog.info? 85).map (fun i => (i.zero, i.size, i.bytes)) = some (some (.agg #[.int .i64 0, .int .i64 0, .int .i64 0, .int .i64 0]), 4, 32) := by kernel_rfl
/-- What a call leaves that returns edges of its own. -/
def E5Post (w : World) (l : List R4) (e : Ending) (w' : World) : Prop := ∃ v, e = .returned v ∧ w'.ownsRow w.heap.size 85 4 v l.length (rCells l) ∧ Below w.heap.size w w'
/-- The edges of the cells of some rows; of some cells of a row. -/
def rowsE (l : List R4) (xs ys : List Int) (k : Nat) : List R4 := (List.range k).flatMap fun k => (List.range (xs.length - 1)).flatMap fun i => cellR l xs ys i k
def colsE (l : List R4) (xs ys : List Int) (k i : Nat) : List R4 := (List.range i).flatMap fun i => cellR l xs ys i k
theorem rowsE_succ (l : List R4) (xs ys : List Int) (k : Nat) : rowsE l xs ys (k + 1) = rowsE l xs ys k ++ colsE l xs ys k (xs.length - 1) := by
  unfold rowsE colsE; rw [List.range_succ, List.flatMap_append]; simp
theorem colsE_succ (l : List R4) (xs ys : List Int) (k i : Nat) : colsE l xs ys k (i + 1) = colsE l xs ys k i ++ cellR l xs ys i k := by
  unfold colsE; rw [List.range_succ, List.flatMap_append]; simp
theorem cellR_len (l : List R4) (xs ys : List Int) (i k : Nat) : (cellR l xs ys i k).length ≤ 4 := by
  unfold cellR
  split
  · rw [List.length_append, List.length_append, List.length_append]
    have h : ∀ (b : Bool) (e : R4), (if b then [] else [e]).length ≤ 1 := fun b e => by cases b <;> simp
    have h1 := h (inC l xs ys i ((k : Int) - 1)) ⟨xs.getD i 0, ys.getD k 0, xs.getD (i + 1) 0, ys.getD k 0⟩
    have h2 := h (inC l xs ys ((i : Int) + 1) k) ⟨xs.getD (i + 1) 0, ys.getD k 0, xs.getD (i + 1) 0, ys.getD (k + 1) 0⟩
    have h3 := h (inC l xs ys i ((k : Int) + 1)) ⟨xs.getD (i + 1) 0, ys.getD (k + 1) 0, xs.getD i 0, ys.getD (k + 1) 0⟩
    have h4 := h (inC l xs ys ((i : Int) - 1) k) ⟨xs.getD i 0, ys.getD (k + 1) 0, xs.getD i 0, ys.getD k 0⟩
    omega
  · simp
theorem colsE_len (l : List R4) (xs ys : List Int) (k : Nat) : ∀ i, (colsE l xs ys k i).length ≤ 4 * i
  | 0 => by simp [colsE]
  | i + 1 => by
    have h1 := colsE_len l xs ys k i
    have h2 := cellR_len l xs ys i k
    rw [colsE_succ, List.length_append]
    omega
theorem rowsE_len (l : List R4) (xs ys : List Int) : ∀ k, (rowsE l xs ys k).length ≤ k * (4 * (xs.length - 1))
  | 0 => by simp [rowsE]
  | k + 1 => by
    have h1 := rowsE_len l xs ys k
    have h2 := colsE_len l xs ys k (xs.length - 1)
    rw [rowsE_succ, List.length_append, Nat.add_mul]
    omega

theorem box2p {w : World} {g : Nat} {t : TypeId} {a b x y : Value} (h : w.heap[g]? = some (.cells #[a, b] t (0, 0))) : ((w.setCell ⟨g, 0, none⟩ x).setCell ⟨g, 1, none⟩ y).heap[g]? = some (.cells #[x, y] t (0, 0)) := by
  have h1 := heap_setCell_same w g 0 _ _ x h
  have h2 := heap_setCell_same _ g 1 _ _ y h1
  simpa using h2
theorem box2o {w : World} {g i : Nat} {x y : Value} (h : g ≠ i) : ((w.setCell ⟨g, 0, none⟩ x).setCell ⟨g, 1, none⟩ y).heap[i]? = w.heap[i]? :=
  (Below.heap_setCell _ _ _ _ (fun e => h e.symm)).trans (Below.heap_setCell _ _ _ _ (fun e => h e.symm))
/-- Four boxes filled, one after the other. -/
def fill4 (w : World) (b1 b2 b3 b4 : Nat) (x x' y y' : Value) : World :=
  (((((((w.setCell ⟨b1, 0, none⟩ x).setCell ⟨b1, 1, none⟩ y).setCell ⟨b2, 0, none⟩ x').setCell ⟨b2, 1, none⟩ y).setCell ⟨b3, 0, none⟩ x').setCell ⟨b3, 1, none⟩ y').setCell ⟨b4, 0, none⟩ x).setCell ⟨b4, 1, none⟩ y'
theorem fill4_at {w : World} {b1 b2 b3 b4 : Nat} {t : TypeId} {x x' y y' z : Value} (h12 : b1 ≠ b2) (h13 : b1 ≠ b3) (h14 : b1 ≠ b4) (h23 : b2 ≠ b3) (h24 : b2 ≠ b4) (h34 : b3 ≠ b4)
    (p1 : w.heap[b1]? = some (.cells #[z, z] t (0, 0))) (p2 : w.heap[b2]? = some (.cells #[z, z] t (0, 0))) (p3 : w.heap[b3]? = some (.cells #[z, z] t (0, 0))) (p4 : w.heap[b4]? = some (.cells #[z, z] t (0, 0))) :
    (fill4 w b1 b2 b3 b4 x x' y y').heap[b1]? = some (.cells #[x, y] t (0, 0)) ∧ (fill4 w b1 b2 b3 b4 x x' y y').heap[b2]? = some (.cells #[x', y] t (0, 0)) ∧ (fill4 w b1 b2 b3 b4 x x' y y').heap[b3]? = some (.cells #[x', y'] t (0, 0)) ∧ (fill4 w b1 b2 b3 b4 x x' y y').heap[b4]? = some (.cells #[x, y'] t (0, 0)) := by
  unfold fill4
  refine ⟨?_, ?_, ?_, ?_⟩
  · rw [box2o h14.symm, box2o h13.symm, box2o h12.symm]; exact box2p p1
  · rw [box2o h24.symm, box2o h23.symm]; exact box2p ((box2o h12).trans p2)
  · rw [box2o h34.symm]; exact box2p ((box2o h23).trans ((box2o h13).trans p3))
  · exact box2p ((box2o h34).trans ((box2o h24).trans ((box2o h14).trans p4)))
theorem fill4_below {w0 w : World} {B b1 b2 b3 b4 : Nat} {x x' y y' : Value} (h : Below B w0 w) (h1 : B ≤ b1) (h2 : B ≤ b2) (h3 : B ≤ b3) (h4 : B ≤ b4) : Below B w0 (fill4 w b1 b2 b3 b4 x x' y y') := by
  unfold fill4
  exact (((((((h.setCell h1 _).setCell h1 _).setCell h2 _).setCell h2 _).setCell h3 _).setCell h3 _).setCell h4 _).setCell h4 _
/-- The four corners of a cell in blocks, and the edges so far. -/
structure EdgeSt (w1 wx : World) (o : Value) (bk : List R4) (b1 b2 b3 b4 : Nat) (x x' y y' : Int) : Prop where
  own : wx.ownsRow w1.heap.size 85 4 o bk.length (rCells bk)
  bel : Below w1.heap.size w1 wx
  p1 : wx.heap[b1]? = some (.cells #[.int .i64 x, .int .i64 y] 43 (0, 0))
  p2 : wx.heap[b2]? = some (.cells #[.int .i64 x', .int .i64 y] 43 (0, 0))
  p3 : wx.heap[b3]? = some (.cells #[.int .i64 x', .int .i64 y'] 43 (0, 0))
  p4 : wx.heap[b4]? = some (.cells #[.int .i64 x, .int .i64 y'] 43 (0, 0))
  ap : ∀ g, o.ownBlock = some g → g ≠ b1 ∧ g ≠ b2 ∧ g ≠ b3 ∧ g ≠ b4
theorem lt_of_heap {w : World} {b : Nat} {o : Obj} (h : w.heap[b]? = some o) : b < w.heap.size := by
  rcases Nat.lt_or_ge b w.heap.size with h1 | h1
  · exact h1
  · rw [Array.getElem?_eq_none h1] at h; cases h
theorem EdgeSt.below {w1 wx wy : World} {o : Value} {bk : List R4} {b1 b2 b3 b4 : Nat} {x x' y y' : Int} (h : EdgeSt w1 wx o bk b1 b2 b3 b4 x x' y y') (hb : Below wx.heap.size wx wy) : EdgeSt w1 wy o bk b1 b2 b3 b4 x x' y y' :=
  ⟨ownsRow_below h.own hb, h.bel.trans (hb.mono h.bel.size), (hb.block _ (lt_of_heap h.p1)).trans h.p1, (hb.block _ (lt_of_heap h.p2)).trans h.p2, (hb.block _ (lt_of_heap h.p3)).trans h.p3, (hb.block _ (lt_of_heap h.p4)).trans h.p4, h.ap⟩
theorem EdgeSt.more {w1 wx wy : World} {o o' : Value} {bk bk' : List R4} {b1 b2 b3 b4 : Nat} {x x' y y' : Int} (h : EdgeSt w1 wx o bk b1 b2 b3 b4 x x' y y') (hg : wx.grownBy wy o.ownBlock) (ho : wy.ownsRow w1.heap.size 85 4 o' bk'.length (rCells bk')) (hat : o'.ownBlock = o.ownBlock ∨ o'.ownBlock = some wx.heap.size) : EdgeSt w1 wy o' bk' b1 b2 b3 b4 x x' y y' := by
  have hb := Below.grown h.bel hg h.bel.size (own_base h.own)
  refine ⟨ho, hb, (hg.block _ (lt_of_heap h.p1) fun e => (h.ap _ e.symm).1 rfl).trans h.p1, (hg.block _ (lt_of_heap h.p2) fun e => (h.ap _ e.symm).2.1 rfl).trans h.p2, (hg.block _ (lt_of_heap h.p3) fun e => (h.ap _ e.symm).2.2.1 rfl).trans h.p3, (hg.block _ (lt_of_heap h.p4) fun e => (h.ap _ e.symm).2.2.2 rfl).trans h.p4, fun g hg' => ?_⟩
  rcases hat with e | e
  · rw [e] at hg'; exact h.ap g hg'
  · rw [e] at hg'
    injection hg' with hg'
    subst hg'
    have h1 := lt_of_heap h.p1
    have h2 := lt_of_heap h.p2
    have h3 := lt_of_heap h.p3
    have h4 := lt_of_heap h.p4
    omega

set_option maxHeartbeats 16000000 in
set_option maxRecDepth 100000 in
theorem edges5_any (A : Option Addr) (n c : Nat) (l : List R4) (w : World) (hA : SlR w A n c l) (hn : n ≤ 120) :
    Calls Tryz.prog 46 #[.agg #[.slice A n c]] w (E5Post w (edgesR l)) := by
  obtain ⟨i0, hi, hz0, hz1, hz2⟩ := info_parts Tryz.infoEdge5
  have hnl := hA.len
  have HA := Lib.hid hA
  have Hres : Hid (edgesR l = rowsE l (xsR l) (ysR l) ((ysR l).length - 1)) := Lib.hid rfl
  generalize edgesR l = res at *
  clear hA
  go_enter Tryz.func46, Tryz.ntmps46
  go_upto_region 3 with fail
  obtain ⟨w0, hw0⟩ : ∃ w0 : World, w0 = w.alloc (.cells #[.slice A n c] 25) := ⟨_, rfl⟩
  rw [← hw0]
  have hr0 : w0.heap[w.heap.size]? = some (.cells #[.slice A n c] 25 (0, 0)) := by rw [hw0]; exact heap_alloc_new w _
  have hs0 : w.heap.size < w0.heap.size := by rw [hw0]; simp
  have Hb0 : Hid (Below w.heap.size w w0) := Lib.hid (by rw [hw0]; exact (by repeat' (first | with_reducible exact Below.refl _ _ | with_reducible refine below_drewN ?_ _ | with_reducible refine Below.drew ?_ | with_reducible refine Below.alloc ?_ ?_ _ | with_reducible refine Below.setCell ?_ ?_ _ | with_reducible refine Below.trans ?_ (Below.mono (by with_reducible assumption) ?_) | (simp; done) | (simp; omega) | omega)))
  have HA0 : Hid (SlR w0 A n c l) := Lib.hid (HA.out.below Hb0.out)
  have Hr0 := Lib.hid hr0
  have cb := cell_of_row w0 w.heap.size 0 _ _ _ hr0
  clear hw0 hr0
  go_loopw [3, 4, 6, 17] (fun x y _ i wr => ∃ kk : Nat, kk ≤ n ∧ i = .int .i64 (kk : Int) ∧ Below w0.heap.size w0 wr ∧ SlP wr x (xsOf (l.take kk)) ∧ SlP wr y (ysOf (l.take kk))) (fun _ _ _ i _ => n - (intOf i).toNat)
  case atStart => exact ⟨0, Nat.zero_le _, rfl, Below.refl _ _, ⟨none, 0, rfl, SlI.nil _, fun _ => ⟨rfl, rfl⟩⟩, ⟨none, 0, rfl, SlI.nil _, fun _ => ⟨rfl, rfl⟩⟩⟩
  case round =>
    obtain ⟨kk, hkk, rfl, hbr, hx, hy⟩ := hrel
    have hsr := hbr.size
    have HX2 := Lib.hid hx
    have HY2 := Lib.hid hy
    have Hbr := Lib.hid hbr
    clear hx hy
    by_cases hkp : kk < n
    · have hl : kk < l.length := by omega
      obtain ⟨bb, off, rfl, hbl, c1, c2, c3, c4⟩ := (HA0.out.below hbr).at kk hl
      have Hxn : Hid (xsOf (l.take (kk + 1)) = putL (putL (xsOf (l.take kk)) l[kk].l) l[kk].r) := Lib.hid (by rw [List.take_succ_eq_append_getElem hl, xsOf_snoc])
      have Hyn : Hid (ysOf (l.take (kk + 1)) = putL (putL (ysOf (l.take kk)) l[kk].b) l[kk].t) := Lib.hid (by rw [List.take_succ_eq_append_getElem hl, ysOf_snoc])
      have hxl := xsOf_len (l.take kk)
      have hyl := ysOf_len (l.take kk)
      have hdl2 : (l.take kk).length ≤ 120 := by simp; omega
      have hkp' : (kk : Int) < (n : Int) := by omega
      generalize l[kk] = r4 at *
      generalize xsOf (l.take kk) = xs at *
      generalize ysOf (l.take kk) = ys at *
      generalize (l.take kk).length = dlen at *
      have hx1 := putL_len xs r4.l
      have hy1 := putL_len ys r4.b
      clear hbr
      go_upto_region 5 with fail
      obtain ⟨wb, hwb⟩ : ∃ wb : World, wb = wr.alloc (.cells #[.int .i64 r4.l, .int .i64 r4.b, .int .i64 r4.r, .int .i64 r4.t] 58) := ⟨_, rfl⟩
      rw [← hwb]
      have hq : wb.heap[wr.heap.size]? = some (.cells #[.int .i64 r4.l, .int .i64 r4.b, .int .i64 r4.r, .int .i64 r4.t] 58 (0, 0)) := by rw [hwb]; exact heap_alloc_new wr _
      have q0 : wb.cell? ⟨wr.heap.size, 0, none⟩ = some (.int .i64 r4.l) := cell_of_row wb _ 0 _ _ _ hq
      have q1 : wb.cell? ⟨wr.heap.size, 1, none⟩ = some (.int .i64 r4.b) := cell_of_row wb _ 1 _ _ _ hq
      have q2 : wb.cell? ⟨wr.heap.size, 2, none⟩ = some (.int .i64 r4.r) := cell_of_row wb _ 2 _ _ _ hq
      have q3 : wb.cell? ⟨wr.heap.size, 3, none⟩ = some (.int .i64 r4.t) := cell_of_row wb _ 3 _ _ _ hq
      have hsb : wr.heap.size < wb.heap.size := by rw [hwb]; simp
      have Hbb : Hid (Below wr.heap.size wr wb) := Lib.hid (by rw [hwb]; exact (by repeat' (first | with_reducible exact Below.refl _ _ | with_reducible refine below_drewN ?_ _ | with_reducible refine Below.drew ?_ | with_reducible refine Below.alloc ?_ ?_ _ | with_reducible refine Below.setCell ?_ ?_ _ | with_reducible refine Below.trans ?_ (Below.mono (by with_reducible assumption) ?_) | (simp; done) | (simp; omega) | omega)))
      have HX3 : Hid (SlP wb u3 xs) := Lib.hid (HX2.out.below Hbb.out)
      have HY3 : Hid (SlP wb u4 ys) := Lib.hid (HY2.out.below Hbb.out)
      have Hq := Lib.hid hq
      clear hwb hq c1 c2 c3 c4
      go_region_held3 (fun w' => w'.cell? ⟨wr.heap.size, 0, none⟩ = some (.int .i64 r4.l) ∧ w'.cell? ⟨wr.heap.size, 1, none⟩ = some (.int .i64 r4.b) ∧ w'.cell? ⟨wr.heap.size, 2, none⟩ = some (.int .i64 r4.r) ∧ w'.cell? ⟨wr.heap.size, 3, none⟩ = some (.int .i64 r4.t))
        (first | go_keep | ((repeat' apply And.intro) <;> go_keep))
        (first
          | (go_at_call_of 57 u3; refine (put_slp u3 (xs) r4.l _ (HX3.out.below (by exact (by repeat' (first | with_reducible exact Below.refl _ _ | with_reducible assumption | with_reducible refine below_drewN ?_ _ | with_reducible refine Below.drew ?_ | with_reducible refine Below.alloc ?_ ?_ _ | with_reducible refine Below.setCell ?_ ?_ _ | with_reducible refine Below.trans ?_ (Below.mono (by with_reducible assumption) ?_) | with_reducible refine below_only ?_ (by with_reducible assumption) ?_ ?_ | (simp; done) | (simp; omega) | omega)))) (by omega)).mono ?_; rintro e w1 ⟨v1, rfl, hv1, hb1⟩; have Hv1 := Lib.hid hv1; have Hk1 : Hid (Below wb.heap.size wb w1) := Lib.hid (show Below wb.heap.size wb w1 from (by have hbq := hb1; exact (by repeat' (first | with_reducible exact Below.refl _ _ | with_reducible assumption | with_reducible refine below_drewN ?_ _ | with_reducible refine Below.drew ?_ | with_reducible refine Below.alloc ?_ ?_ _ | with_reducible refine Below.setCell ?_ ?_ _ | with_reducible refine Below.trans ?_ (Below.mono (by with_reducible assumption) ?_) | with_reducible refine below_only ?_ (by with_reducible assumption) ?_ ?_ | (simp; done) | (simp; omega) | omega)))); have Hs1 : Hid (wb.heap.size ≤ w1.heap.size) := Hk1.out.size; obtain ⟨p01, p11, p21, p31⟩ := cells4 Hq.out Hk1.out hsb; clear hv1 hb1)
          | (go_at_call_of 57 v1; refine (put_slp v1 (putL xs r4.l) r4.r _ (Hv1.out) (by omega)).mono ?_; rintro e w2 ⟨v2, rfl, hv2, hb2⟩; have Hv2 := Lib.hid hv2; have Hk2 : Hid (Below wb.heap.size wb w2) := Lib.hid (show Below wb.heap.size wb w2 from (by have hbq := hb2; have hp := Hk1.out; have hs := Hs1.out; exact (by repeat' (first | with_reducible exact Below.refl _ _ | with_reducible assumption | with_reducible refine below_drewN ?_ _ | with_reducible refine Below.drew ?_ | with_reducible refine Below.alloc ?_ ?_ _ | with_reducible refine Below.setCell ?_ ?_ _ | with_reducible refine Below.trans ?_ (Below.mono (by with_reducible assumption) ?_) | with_reducible refine below_only ?_ (by with_reducible assumption) ?_ ?_ | (simp; done) | (simp; omega) | omega)))); have Hs2 : Hid (wb.heap.size ≤ w2.heap.size) := Hk2.out.size; obtain ⟨p02, p12, p22, p32⟩ := cells4 Hq.out Hk2.out hsb; clear hv2 hb2)
          | (go_at_call_of 57 u4; refine (put_slp u4 (ys) r4.b _ (HY3.out.below (by have hp := Hk2.out; have hs := Hs2.out; exact (by repeat' (first | with_reducible exact Below.refl _ _ | with_reducible assumption | with_reducible refine below_drewN ?_ _ | with_reducible refine Below.drew ?_ | with_reducible refine Below.alloc ?_ ?_ _ | with_reducible refine Below.setCell ?_ ?_ _ | with_reducible refine Below.trans ?_ (Below.mono (by with_reducible assumption) ?_) | with_reducible refine below_only ?_ (by with_reducible assumption) ?_ ?_ | (simp; done) | (simp; omega) | omega)))) (by omega)).mono ?_; rintro e w3 ⟨v3, rfl, hv3, hb3⟩; have Hv3 := Lib.hid hv3; have Hn3 := Lib.hid hb3; have Hk3 : Hid (Below wb.heap.size wb w3) := Lib.hid (show Below wb.heap.size wb w3 from (by have hbq := hb3; have hp := Hk2.out; have hs := Hs2.out; exact (by repeat' (first | with_reducible exact Below.refl _ _ | with_reducible assumption | with_reducible refine below_drewN ?_ _ | with_reducible refine Below.drew ?_ | with_reducible refine Below.alloc ?_ ?_ _ | with_reducible refine Below.setCell ?_ ?_ _ | with_reducible refine Below.trans ?_ (Below.mono (by with_reducible assumption) ?_) | with_reducible refine below_only ?_ (by with_reducible assumption) ?_ ?_ | (simp; done) | (simp; omega) | omega)))); have Hs3 : Hid (wb.heap.size ≤ w3.heap.size) := Hk3.out.size; obtain ⟨p03, p13, p23, p33⟩ := cells4 Hq.out Hk3.out hsb; clear hv3 hb3)
          | (go_at_call_of 57 v3; refine (put_slp v3 (putL ys r4.b) r4.t _ (Hv3.out) (by omega)).mono ?_; rintro e w4 ⟨v4, rfl, hv4, hb4⟩; have Hv4 := Lib.hid hv4; have Hn4 := Lib.hid hb4; have Hk4 : Hid (Below wb.heap.size wb w4) := Lib.hid (show Below wb.heap.size wb w4 from (by have hbq := hb4; have hp := Hk3.out; have hs := Hs3.out; exact (by repeat' (first | with_reducible exact Below.refl _ _ | with_reducible assumption | with_reducible refine below_drewN ?_ _ | with_reducible refine Below.drew ?_ | with_reducible refine Below.alloc ?_ ?_ _ | with_reducible refine Below.setCell ?_ ?_ _ | with_reducible refine Below.trans ?_ (Below.mono (by with_reducible assumption) ?_) | with_reducible refine below_only ?_ (by with_reducible assumption) ?_ ?_ | (simp; done) | (simp; omega) | omega)))); have Hs4 : Hid (wb.heap.size ≤ w4.heap.size) := Hk4.out.size; obtain ⟨p04, p14, p24, p34⟩ := cells4 Hq.out Hk4.out hsb; clear hv4 hb4)
          | fail)
      all_goals
        go_wp2
        go_roundw
        case rel =>
          have hk4 := Hk4.out
          refine ⟨kk + 1, by omega, by go_num, ?_, ?_, ?_⟩
          · have h1 := Hbr.out
            have h2 := Hbb.out
            exact h1.trans ((h2.trans (hk4.mono (by omega))).mono (by omega))
          · rw [Hxn.out]
            exact (Hv2.out.below Hn3.out).below Hn4.out
          · rw [Hyn.out]; exact Hv4.out
        case measure => simp [intOf]; omega
    · have e1 : l.take kk = l := List.take_of_length_le (by omega)
      have HX5 : Hid (SlP wr u3 (xsR l)) := Lib.hid (by have := HX2.out; rw [e1] at this; exact this)
      have HY5 : Hid (SlP wr u4 (ysR l)) := Lib.hid (by have := HY2.out; rw [e1] at this; exact this)
      have hkp' : ¬ (kk : Int) < (n : Int) := by omega
      have hxs : (xsR l).length ≤ 240 := by have := xsOf_len l; show (xsOf l).length ≤ 240; omega
      have hys : (ysR l).length ≤ 240 := by have := ysOf_len l; show (ysOf l).length ≤ 240; omega
      generalize xsR l = xs at *
      generalize ysR l = ys at *
      obtain ⟨w1, rfl⟩ : ∃ w1 : World, w1 = wr := ⟨_, rfl⟩
      obtain ⟨X, xc, rfl, hX, _⟩ := HX5.out
      obtain ⟨Y, yc, rfl, hY, _⟩ := HY5.out
      have HX := Lib.hid hX
      have HY := Lib.hid hY
      have HA1 := Lib.hid (HA0.out.below hbr)
      have Hc1 : Hid (w1.cell? ⟨w.heap.size, 0, none⟩ = some (.slice A n c)) := Lib.hid ((hbr.cell (p := ⟨w.heap.size, 0, none⟩) hs0).trans cb)
      have Hbw1 : Hid (Below w.heap.size w w1) := Lib.hid (Hb0.out.trans (hbr.mono (Nat.le_of_lt hs0)))
      have hsw1 : w.heap.size < w1.heap.size := Nat.lt_of_lt_of_le hs0 hsr
      clear hX hY HX5 HY5 e1 hbr Hbr HX2 HY2 HA0 Hr0 cb Hb0
      have HTl := Lib.hid (fun k => rowsE_len l xs ys k)
      have HTs := Lib.hid (fun k => rowsE_succ l xs ys k)
      have HCl := Lib.hid (fun k i => colsE_len l xs ys k i)
      have HCs := Lib.hid (fun k i => colsE_succ l xs ys k i)
      go_upto_region 9 with fail
      go_loopw [7, 8, 9, 10, 11, 12, 13] (fun o s8 _ _ _ _ _ wr => ∃ k : Nat, k ≤ ys.length - 1 ∧ s8 = .int .i64 (k : Int) ∧ wr.ownsRow w1.heap.size 85 4 o (rowsE l xs ys k).length (rCells (rowsE l xs ys k)) ∧ Below w1.heap.size w1 wr) (fun _ s8 _ _ _ _ _ _ => ys.length - 1 - (intOf s8).toNat)
      case atStart => exact ⟨0, Nat.zero_le _, rfl, World.ownsRow_nil _ _ _ _, Below.refl _ _⟩
      case round =>
        obtain ⟨wo, rfl⟩ : ∃ wo : World, wo = wr := ⟨_, rfl⟩
        obtain ⟨uo, rfl⟩ : ∃ uo, uo = u7 := ⟨_, rfl⟩
        obtain ⟨k, hk, rfl, hown, hbo⟩ := hrel
        have hso := hbo.size
        have Hown := Lib.hid hown
        have Hbo := Lib.hid hbo
        have hwk : IntKind.i64.wrap ((k : Int) + 1) = (k : Int) + 1 := IntWalk.i64_in _ (by omega)
        have hlen1 : (rowsE l xs ys k).length ≤ 229440 := by
          have h1 := HTl.out k
          have h2 : k * (4 * (xs.length - 1)) ≤ 240 * (4 * 239) := Nat.mul_le_mul (by omega) (by omega)
          omega
        by_cases hkn : k + 1 < ys.length
        · have hkn' : (k : Int) + 1 < (ys.length : Int) := by omega
          have hkd : decide ((k : Int) + 1 < (ys.length : Int)) = true := decide_eq_true hkn'
          obtain ⟨dn, hdn⟩ : ∃ dn, rowsE l xs ys k = dn := ⟨_, rfl⟩
          rw [hdn] at Hown hlen1
          have Hdn := Lib.hid hdn
          obtain ⟨y, hy⟩ : ∃ y, ys[k] = y := ⟨_, rfl⟩
          obtain ⟨y', hy'⟩ : ∃ y', ys[k + 1] = y' := ⟨_, rfl⟩
          have Hy : Hid (ys.getD k 0 = y) := Lib.hid (by rw [getD_at (by omega), hy])
          have Hy' : Hid (ys.getD (k + 1) 0 = y') := Lib.hid (by rw [getD_at hkn, hy'])
          obtain ⟨bY, oY, hYe, hbY, cY0⟩ := HY.out.at k (by omega)
          subst hYe
          obtain ⟨bY2, oY2, hYe2, hbY2, cY1⟩ := HY.out.at (k + 1) hkn
          injection hYe2 with hYe2
          injection hYe2 with e1 e2 _
          subst e1 e2
          rw [hy] at cY0
          rw [hy'] at cY1
          have HcY := Lib.hid (And.intro cY0 cY1)
          clear hown hbo hdn hy hy' cY0 cY1 hbY2
          go_upto_region 12 with fail
          go_loopw [7, 9, 10, 11, 12, 13] (fun o s9 _ _ _ _ wr => ∃ i : Nat, i ≤ xs.length - 1 ∧ s9 = .int .i64 (i : Int) ∧ wr.ownsRow w1.heap.size 85 4 o (dn ++ colsE l xs ys k i).length (rCells (dn ++ colsE l xs ys k i)) ∧ Below w1.heap.size w1 wr) (fun _ s9 _ _ _ _ _ => xs.length - 1 - (intOf s9).toNat)
          case atStart => exact ⟨0, Nat.zero_le _, rfl, by simpa [colsE] using Hown.out, Hbo.out⟩
          case round =>
            obtain ⟨wp, rfl⟩ : ∃ wp : World, wp = wr := ⟨_, rfl⟩
            obtain ⟨up, rfl⟩ : ∃ up, up = u7 := ⟨_, rfl⟩
            obtain ⟨i, hi_, rfl, hown, hbp⟩ := hrel
            have hsp := hbp.size
            have Hownp := Lib.hid hown
            have Hbp := Lib.hid hbp
            have hwi : IntKind.i64.wrap ((i : Int) + 1) = (i : Int) + 1 := IntWalk.i64_in _ (by omega)
            by_cases hin : i + 1 < xs.length
            · have hin' : (i : Int) + 1 < (xs.length : Int) := by omega
              have hid' : decide ((i : Int) + 1 < (xs.length : Int)) = true := decide_eq_true hin'
              have hbk : (dn ++ colsE l xs ys k i).length ≤ 230400 := by have := HCl.out k i; rw [List.length_append]; omega
              obtain ⟨bk, hbke⟩ : ∃ bk, dn ++ colsE l xs ys k i = bk := ⟨_, rfl⟩
              rw [hbke] at Hownp hbk
              have Hbke := Lib.hid hbke
              have HIn := Lib.hid (fun (i k : Int) (hi : -5 ≤ i ∧ i ≤ 100000000) (hk : -5 ≤ k ∧ k ≤ 100000000) W (hW : Below w1.heap.size w1 W) => in5_any A n c l X (some ⟨bY, oY, none⟩) xc yc xs ys i k W (HA1.out.below hW) (HX.out.below hW) (HY.out.below hW) hi hk)
              have cA : wp.cell? ⟨w.heap.size, 0, none⟩ = some (.slice A n c) := (hbp.cell (p := ⟨w.heap.size, 0, none⟩) hsw1).trans Hc1.out
              clear hown hbp hbke
              cases hc : inC l xs ys i k with
              | false =>
                have Hcell : Hid (cellR l xs ys i k = []) := Lib.hid (by unfold cellR; rw [hc]; rfl)
                have HI0 := Lib.hid (HIn.out i k (by omega) (by omega) wp Hbp.out)
                rw [hc] at HI0
                clear hc HIn
                go_wp2_with (first
                  | (go_at_call 82
                     refine HI0.out.mono ?_
                     rintro e w2 ⟨rfl, hb2⟩
                     have Hb2 := Lib.hid hb2
                     clear hb2)
                  | fail)
                go_roundw
                case rel => exact ⟨i + 1, by omega, by go_num, by rw [HCs.out, Hcell.out, List.append_nil, Hbke.out]; exact ownsRow_below Hownp.out Hb2.out, Hbp.out.trans (Hb2.out.mono hsp)⟩
                case measure => simp [intOf]; omega
              | true =>
                have HI0 := Lib.hid (HIn.out i k (by omega) (by omega) wp Hbp.out)
                rw [hc] at HI0
                have Hcl := Lib.hid hc
                clear hc
                go_upto_region 15 with (first
                  | (go_at_call 82
                     refine HI0.out.mono ?_
                     rintro e w2 ⟨rfl, hb2⟩
                     have Hb2 := Lib.hid hb2
                     clear hb2)
                  | fail)
                have Hb12 : Hid (Below w1.heap.size w1 w2) := Lib.hid (Hbp.out.trans (Hb2.out.mono hsp))
                have Hown2 : Hid (w2.ownsRow w1.heap.size 85 4 up bk.length (rCells bk)) := Lib.hid (ownsRow_below Hownp.out Hb2.out)
                have Hlt2 := Lib.hid (fun g (hg : up.ownBlock = some g) => (Hown2.out.lt g hg).2)
                obtain ⟨x, hx⟩ : ∃ x, xs[i] = x := ⟨_, rfl⟩
                obtain ⟨x', hx'⟩ : ∃ x', xs[i + 1] = x' := ⟨_, rfl⟩
                have Hx : Hid (xs.getD i 0 = x) := Lib.hid (by rw [getD_at (by omega), hx])
                have Hx' : Hid (xs.getD (i + 1) 0 = x') := Lib.hid (by rw [getD_at hin, hx'])
                obtain ⟨bX, oX, hXe, hbX, cX0⟩ := HX.out.at i (by omega)
                subst hXe
                obtain ⟨bX2, oX2, hXe2, hbX2, cX1⟩ := HX.out.at (i + 1) hin
                injection hXe2 with hXe2
                injection hXe2 with e1 e2 _
                subst e1 e2
                rw [hx] at cX0
                rw [hx'] at cX1
                have d0 := (Hb12.out.cell (p := ⟨bX, oX + i, none⟩) hbX).trans cX0
                have d1 := (Hb12.out.cell (p := ⟨bX, oX + (i + 1), none⟩) hbX).trans cX1
                have d2 := (Hb12.out.cell (p := ⟨bY, oY + k, none⟩) hbY).trans HcY.out.1
                have d3 := (Hb12.out.cell (p := ⟨bY, oY + (k + 1), none⟩) hbY).trans HcY.out.2
                have hb1 : bX < w2.heap.size := Nat.lt_of_lt_of_le hbX Hb12.out.size
                have hb2 : bY < w2.heap.size := Nat.lt_of_lt_of_le hbY Hb12.out.size
                have hi0 : (0 : Int) ≤ (i : Int) := by omega
                have hk0 : (0 : Int) ≤ (k : Int) := by omega
                have hi1 : (0 : Int) ≤ (i : Int) + 1 := by omega
                have hk1 : (0 : Int) ≤ (k : Int) + 1 := by omega
                have hil : (i : Int) < (xs.length : Int) := by omega
                have hkl : (k : Int) < (ys.length : Int) := by omega
                have hs2 := Hb12.out.size
                clear hx hx' cX0 cX1 cA
                go_cut [10, 11, 12, 13] (fun s10 s11 s12 s13 wx => ∃ b1 b2 b3 b4 : Nat, s10 = .pointer (some ⟨b1, 0, none⟩) ∧ s11 = .pointer (some ⟨b2, 0, none⟩) ∧ s12 = .pointer (some ⟨b3, 0, none⟩) ∧ s13 = .pointer (some ⟨b4, 0, none⟩) ∧ EdgeSt w1 wx up bk b1 b2 b3 b4 x x' y y')
                case first =>
                  have HSb : Hid (∀ wy, Below w2.heap.size w2 wy → (wy.cell? ⟨bX, oX + i, none⟩ = some (.int .i64 x) ∧ wy.cell? ⟨bX, oX + (i + 1), none⟩ = some (.int .i64 x') ∧ wy.cell? ⟨bY, oY + k, none⟩ = some (.int .i64 y) ∧ wy.cell? ⟨bY, oY + (k + 1), none⟩ = some (.int .i64 y'))) := Lib.hid (fun wy hy => ⟨(hy.cell (p := ⟨bX, oX + i, none⟩) hb1).trans d0, (hy.cell (p := ⟨bX, oX + (i + 1), none⟩) hb1).trans d1, (hy.cell (p := ⟨bY, oY + k, none⟩) hb2).trans d2, (hy.cell (p := ⟨bY, oY + (k + 1), none⟩) hb2).trans d3⟩)
                  clear d0 d1 d2 d3
                  refine wp_region_noPanic ?_
                  refine wp_region_held_drew (S := fun wy => wy.cell? ⟨bX, oX + i, none⟩ = some (.int .i64 x) ∧ wy.cell? ⟨bX, oX + (i + 1), none⟩ = some (.int .i64 x') ∧ wy.cell? ⟨bY, oY + k, none⟩ = some (.int .i64 y) ∧ wy.cell? ⟨bY, oY + (k + 1), none⟩ = some (.int .i64 y')) (by kernel_rfl) (HSb.out _ (by repeat' (first | with_reducible exact Below.refl _ _ | with_reducible refine below_drewN ?_ _ | with_reducible refine Below.drew ?_ | with_reducible refine Below.alloc ?_ ?_ _ | with_reducible refine Below.setCell ?_ ?_ _ | with_reducible refine Below.trans ?_ (Below.mono (by with_reducible assumption) ?_) | (simp; done) | (simp; omega) | omega))) (fun hHeld => ?_)
                  refine wpAnyH_take (i := 0) (v := ?vva0) rfl (by kernel_rfl) (by kernel_rfl) (by kernel_rfl) (fun _ _ _ h => h) (Or.inl ⟨by rfl, ?hya0⟩) hHeld ?resta0; (case hya0 => (intro w hSw; (try dsimp only at hSw); go_simp; all_goals (with_reducible rfl))); simp only [Act.put, List.setIfInBounds_toArray, List.set_cons_zero, List.set_cons_succ]
                  refine wpAnyH_take (i := 1) (v := ?vva1) rfl (by kernel_rfl) (by kernel_rfl) (by kernel_rfl) (fun _ _ _ h => h) (Or.inl ⟨by rfl, ?hya1⟩) hHeld ?resta1; (case hya1 => (intro w hSw; (try dsimp only at hSw); go_simp; all_goals (with_reducible rfl))); simp only [Act.put, List.setIfInBounds_toArray, List.set_cons_zero, List.set_cons_succ]
                  refine wpAnyH_take (i := 2) (v := ?vva2) rfl (by kernel_rfl) (by kernel_rfl) (by kernel_rfl) (fun _ _ _ h => h) (Or.inl ⟨by rfl, ?hya2⟩) hHeld ?resta2; (case hya2 => (intro w hSw; (try dsimp only at hSw); go_simp; all_goals (with_reducible rfl))); simp only [Act.put, List.setIfInBounds_toArray, List.set_cons_zero, List.set_cons_succ]
                  refine wpAnyH_take (i := 3) (v := ?vva3) rfl (by kernel_rfl) (by kernel_rfl) (by kernel_rfl) (fun _ _ _ h => h) (Or.inl ⟨by rfl, ?hya3⟩) hHeld ?resta3; (case hya3 => (intro w hSw; (try dsimp only at hSw); go_simp; all_goals (with_reducible rfl))); simp only [Act.put, List.setIfInBounds_toArray, List.set_cons_zero, List.set_cons_succ]
                  refine wpAnyH_take (i := 4) (v := ?vva4) rfl (by kernel_rfl) (by kernel_rfl) (by kernel_rfl) (fun _ _ _ h => h) (Or.inl ⟨by rfl, ?hya4⟩) hHeld ?resta4; (case hya4 => (intro w hSw; (try dsimp only at hSw); go_simp; all_goals (with_reducible rfl))); simp only [Act.put, List.setIfInBounds_toArray, List.set_cons_zero, List.set_cons_succ]
                  refine wpAnyH_take (i := 5) (v := ?vva5) rfl (by kernel_rfl) (by kernel_rfl) (by kernel_rfl) (fun _ _ _ h => h) (Or.inl ⟨by rfl, ?hya5⟩) hHeld ?resta5; (case hya5 => (intro w hSw; (try dsimp only at hSw); go_simp; all_goals (with_reducible rfl))); simp only [Act.put, List.setIfInBounds_toArray, List.set_cons_zero, List.set_cons_succ]
                  refine wpAnyH_take (i := 6) (v := ?vva6) rfl (by kernel_rfl) (by kernel_rfl) (by kernel_rfl) (fun _ _ _ h => h) (Or.inl ⟨by rfl, ?hya6⟩) hHeld ?resta6; (case hya6 => (intro w hSw; (try dsimp only at hSw); go_simp; all_goals (with_reducible rfl))); simp only [Act.put, List.setIfInBounds_toArray, List.set_cons_zero, List.set_cons_succ]
                  refine wpAnyH_take (i := 7) (v := ?vva7) rfl (by kernel_rfl) (by kernel_rfl) (by kernel_rfl) (fun _ _ _ h => h) (Or.inl ⟨by rfl, ?hya7⟩) hHeld ?resta7; (case hya7 => (intro w hSw; (try dsimp only at hSw); go_simp; all_goals (with_reducible rfl))); simp only [Act.put, List.setIfInBounds_toArray, List.set_cons_zero, List.set_cons_succ]
                  refine wpAnyH_take (i := 8) (v := ?vva8) rfl (by kernel_rfl) (by kernel_rfl) (by kernel_rfl) (fun _ _ _ h => h) (Or.inl ⟨by rfl, ?hya8⟩) hHeld ?resta8; (case hya8 => (intro w hSw; (try dsimp only at hSw); go_simp; all_goals (with_reducible rfl))); simp only [Act.put, List.setIfInBounds_toArray, List.set_cons_zero, List.set_cons_succ]
                  refine wpAnyH_take (i := 9) (v := ?vva9) rfl (by kernel_rfl) (by kernel_rfl) (by kernel_rfl) (fun _ _ _ h => h) (Or.inl ⟨by rfl, ?hya9⟩) hHeld ?resta9; (case hya9 => (intro w hSw; (try dsimp only at hSw); go_simp; all_goals (with_reducible rfl))); simp only [Act.put, List.setIfInBounds_toArray, List.set_cons_zero, List.set_cons_succ]
                  refine wpAnyH_take (i := 10) (v := ?vva10) rfl (by kernel_rfl) (by kernel_rfl) (by kernel_rfl) (fun _ _ _ h => h) (Or.inl ⟨by rfl, ?hya10⟩) hHeld ?resta10; (case hya10 => (intro w hSw; (try dsimp only at hSw); go_simp; all_goals (with_reducible rfl))); simp only [Act.put, List.setIfInBounds_toArray, List.set_cons_zero, List.set_cons_succ]
                  refine wpAnyH_take (i := 11) (v := ?vva11) rfl (by kernel_rfl) (by kernel_rfl) (by kernel_rfl) (fun _ _ _ h => h) (Or.inl ⟨by rfl, ?hya11⟩) hHeld ?resta11; (case hya11 => (intro w hSw; (try dsimp only at hSw); go_simp; all_goals (with_reducible rfl))); simp only [Act.put, List.setIfInBounds_toArray, List.set_cons_zero, List.set_cons_succ]
                  refine wpAnyH_take (i := 12) (v := ?vva12) rfl (by kernel_rfl) (by kernel_rfl) (by kernel_rfl) (fun _ _ _ h => h) (Or.inl ⟨by rfl, ?hya12⟩) hHeld ?resta12; (case hya12 => (intro w hSw; (try dsimp only at hSw); go_simp; all_goals (with_reducible rfl))); simp only [Act.put, List.setIfInBounds_toArray, List.set_cons_zero, List.set_cons_succ]
                  refine wpAnyH_take (i := 13) (v := ?vva13) rfl (by kernel_rfl) (by kernel_rfl) (by kernel_rfl) (fun _ _ _ h => h) (Or.inl ⟨by rfl, ?hya13⟩) hHeld ?resta13; (case hya13 => (intro w hSw; (try dsimp only at hSw); go_simp; all_goals (with_reducible rfl))); simp only [Act.put, List.setIfInBounds_toArray, List.set_cons_zero, List.set_cons_succ]
                  refine wpAnyH_take (i := 14) (v := ?vva14) rfl (by kernel_rfl) (by kernel_rfl) (by kernel_rfl) (fun _ _ _ h => h) (Or.inl ⟨by rfl, ?hya14⟩) hHeld ?resta14; (case hya14 => (intro w hSw; (try dsimp only at hSw); go_simp; all_goals (with_reducible rfl))); simp only [Act.put, List.setIfInBounds_toArray, List.set_cons_zero, List.set_cons_succ]
                  refine wpAnyH_take (i := 15) (v := ?vva15) rfl (by kernel_rfl) (by kernel_rfl) (by kernel_rfl) (fun _ _ _ h => h) (Or.inl ⟨by rfl, ?hya15⟩) hHeld ?resta15; (case hya15 => (intro w hSw; (try dsimp only at hSw); go_simp; all_goals (with_reducible rfl))); simp only [Act.put, List.setIfInBounds_toArray, List.set_cons_zero, List.set_cons_succ]
                  refine wpAnyH_take (i := 16) (v := ?vva16) rfl (by kernel_rfl) (by kernel_rfl) (by kernel_rfl) (fun _ _ _ h => h) (Or.inl ⟨by rfl, ?hya16⟩) hHeld ?resta16; (case hya16 => (intro w hSw; (try dsimp only at hSw); go_simp; all_goals (with_reducible rfl))); simp only [Act.put, List.setIfInBounds_toArray, List.set_cons_zero, List.set_cons_succ]
                  refine wpAnyH_take (i := 17) (v := ?vva17) rfl (by kernel_rfl) (by kernel_rfl) (by kernel_rfl) (fun _ _ _ h => h) (Or.inl ⟨by rfl, ?hya17⟩) hHeld ?resta17; (case hya17 => (intro w hSw; (try dsimp only at hSw); go_simp; all_goals (with_reducible rfl))); simp only [Act.put, List.setIfInBounds_toArray, List.set_cons_zero, List.set_cons_succ]
                  refine wpAnyH_take (i := 18) (v := ?vva18) rfl (by kernel_rfl) (by kernel_rfl) (by kernel_rfl) (fun _ _ _ h => h) (Or.inl ⟨by rfl, ?hya18⟩) hHeld ?resta18; (case hya18 => (intro w hSw; (try dsimp only at hSw); go_simp; all_goals (with_reducible rfl))); simp only [Act.put, List.setIfInBounds_toArray, List.set_cons_zero, List.set_cons_succ]
                  refine wpAnyH_take (i := 19) (v := ?vva19) rfl (by kernel_rfl) (by kernel_rfl) (by kernel_rfl) (fun _ _ _ h => h) (Or.inl ⟨by rfl, ?hya19⟩) hHeld ?resta19; (case hya19 => (intro w hSw; (try dsimp only at hSw); go_simp; all_goals (with_reducible rfl))); simp only [Act.put, List.setIfInBounds_toArray, List.set_cons_zero, List.set_cons_succ]
                  refine wpAnyH_take (i := 20) (v := ?vva20) rfl (by kernel_rfl) (by kernel_rfl) (by kernel_rfl) (fun _ _ _ h => h) (Or.inl ⟨by rfl, ?hya20⟩) hHeld ?resta20; (case hya20 => (intro w hSw; (try dsimp only at hSw); go_simp; all_goals (with_reducible rfl))); simp only [Act.put, List.setIfInBounds_toArray, List.set_cons_zero, List.set_cons_succ]
                  refine wpAnyH_take (i := 21) (v := ?vva21) rfl (by kernel_rfl) (by kernel_rfl) (by kernel_rfl) (fun _ _ _ h => h) (Or.inl ⟨by rfl, ?hya21⟩) hHeld ?resta21; (case hya21 => (intro w hSw; (try dsimp only at hSw); go_simp; all_goals (with_reducible rfl))); simp only [Act.put, List.setIfInBounds_toArray, List.set_cons_zero, List.set_cons_succ]
                  refine wpAnyH_take (i := 22) (v := ?vva22) rfl (by kernel_rfl) (by kernel_rfl) (by kernel_rfl) (fun _ _ _ h => h) (Or.inl ⟨by rfl, ?hya22⟩) hHeld ?resta22; (case hya22 => (intro w hSw; (try dsimp only at hSw); go_simp; all_goals (with_reducible rfl))); simp only [Act.put, List.setIfInBounds_toArray, List.set_cons_zero, List.set_cons_succ]
                  refine wpAnyH_take (i := 23) (v := ?vva23) rfl (by kernel_rfl) (by kernel_rfl) (by kernel_rfl) (fun _ _ _ h => h) (Or.inl ⟨by rfl, ?hya23⟩) hHeld ?resta23; (case hya23 => (intro w hSw; (try dsimp only at hSw); go_simp; all_goals (with_reducible rfl))); simp only [Act.put, List.setIfInBounds_toArray, List.set_cons_zero, List.set_cons_succ]
                  refine wpAnyH_take (i := 24) (v := ?vva24) rfl (by kernel_rfl) (by kernel_rfl) (by kernel_rfl) (fun _ _ _ h => h) (Or.inl ⟨by rfl, ?hya24⟩) hHeld ?resta24; (case hya24 => (intro w hSw; (try dsimp only at hSw); go_simp; all_goals (with_reducible rfl))); simp only [Act.put, List.setIfInBounds_toArray, List.set_cons_zero, List.set_cons_succ]
                  refine wpAnyH_take (i := 25) (v := ?vva25) rfl (by kernel_rfl) (by kernel_rfl) (by kernel_rfl) (fun _ _ _ h => h) (Or.inl ⟨by rfl, ?hya25⟩) hHeld ?resta25; (case hya25 => (intro w hSw; (try dsimp only at hSw); go_simp; all_goals (with_reducible rfl))); simp only [Act.put, List.setIfInBounds_toArray, List.set_cons_zero, List.set_cons_succ]
                  refine wpAnyH_take (i := 26) (v := ?vva26) rfl (by kernel_rfl) (by kernel_rfl) (by kernel_rfl) (fun _ _ _ h => h) (Or.inl ⟨by rfl, ?hya26⟩) hHeld ?resta26; (case hya26 => (intro w hSw; (try dsimp only at hSw); go_simp; all_goals (with_reducible rfl))); simp only [Act.put, List.setIfInBounds_toArray, List.set_cons_zero, List.set_cons_succ]
                  refine wpAnyH_take (i := 27) (v := ?vva27) rfl (by kernel_rfl) (by kernel_rfl) (by kernel_rfl) (fun _ _ _ h => h) (Or.inl ⟨by rfl, ?hya27⟩) hHeld ?resta27; (case hya27 => (intro w hSw; (try dsimp only at hSw); go_simp; all_goals (with_reducible rfl))); simp only [Act.put, List.setIfInBounds_toArray, List.set_cons_zero, List.set_cons_succ]
                  refine wpAnyH_take (i := 28) (v := ?vva28) rfl (by kernel_rfl) (by kernel_rfl) (by kernel_rfl) (fun _ _ _ h => h) (Or.inl ⟨by rfl, ?hya28⟩) hHeld ?resta28; (case hya28 => (intro w hSw; (try dsimp only at hSw); go_simp; all_goals (with_reducible rfl))); simp only [Act.put, List.setIfInBounds_toArray, List.set_cons_zero, List.set_cons_succ]
                  refine wpAnyH_take (i := 29) (v := ?vva29) rfl (by kernel_rfl) (by kernel_rfl) (by kernel_rfl) (fun _ _ _ h => h) (Or.inl ⟨by rfl, ?hya29⟩) hHeld ?resta29; (case hya29 => (intro w hSw; (try dsimp only at hSw); go_simp; all_goals (with_reducible rfl))); simp only [Act.put, List.setIfInBounds_toArray, List.set_cons_zero, List.set_cons_succ]
                  refine wpAnyH_take (i := 30) (v := ?vva30) rfl (by kernel_rfl) (by kernel_rfl) (by kernel_rfl) (fun _ _ _ h => h) (Or.inl ⟨by rfl, ?hya30⟩) hHeld ?resta30; (case hya30 => (intro w hSw; (try dsimp only at hSw); go_simp; all_goals (with_reducible rfl))); simp only [Act.put, List.setIfInBounds_toArray, List.set_cons_zero, List.set_cons_succ]
                  refine wpAnyH_take (i := 31) (v := ?vva31) rfl (by kernel_rfl) (by kernel_rfl) (by kernel_rfl) (fun _ _ _ h => h) (Or.inl ⟨by rfl, ?hya31⟩) hHeld ?resta31; (case hya31 => (intro w hSw; (try dsimp only at hSw); go_simp; all_goals (with_reducible rfl))); simp only [Act.put, List.setIfInBounds_toArray, List.set_cons_zero, List.set_cons_succ]
                  refine wpAnyH_take (i := 32) (v := ?vva32) rfl (by kernel_rfl) (by kernel_rfl) (by kernel_rfl) (fun _ _ _ h => h) (Or.inl ⟨by rfl, ?hya32⟩) hHeld ?resta32; (case hya32 => (intro w hSw; (try dsimp only at hSw); go_simp; all_goals (with_reducible rfl))); simp only [Act.put, List.setIfInBounds_toArray, List.set_cons_zero, List.set_cons_succ]
                  refine wpAnyH_take (i := 33) (v := ?vva33) rfl (by kernel_rfl) (by kernel_rfl) (by kernel_rfl) (fun _ _ _ h => h) (Or.inl ⟨by rfl, ?hya33⟩) hHeld ?resta33; (case hya33 => (intro w hSw; (try dsimp only at hSw); go_simp; all_goals (with_reducible rfl))); simp only [Act.put, List.setIfInBounds_toArray, List.set_cons_zero, List.set_cons_succ]
                  refine wpAnyH_take (i := 34) (v := ?vva34) rfl (by kernel_rfl) (by kernel_rfl) (by kernel_rfl) (fun _ _ _ h => h) (Or.inl ⟨by rfl, ?hya34⟩) hHeld ?resta34; (case hya34 => (intro w hSw; (try dsimp only at hSw); go_simp; all_goals (with_reducible rfl))); simp only [Act.put, List.setIfInBounds_toArray, List.set_cons_zero, List.set_cons_succ]
                  refine wpAnyH_take (i := 35) (v := ?vva35) rfl (by kernel_rfl) (by kernel_rfl) (by kernel_rfl) (fun _ _ _ h => h) (Or.inl ⟨by rfl, ?hya35⟩) hHeld ?resta35; (case hya35 => (intro w hSw; (try dsimp only at hSw); go_simp; all_goals (with_reducible rfl))); simp only [Act.put, List.setIfInBounds_toArray, List.set_cons_zero, List.set_cons_succ]
                  refine wpAnyH_take (i := 36) (v := ?vva36) rfl (by kernel_rfl) (by kernel_rfl) (by kernel_rfl) (fun _ _ _ h => h) (Or.inl ⟨by rfl, ?hya36⟩) hHeld ?resta36; (case hya36 => (intro w hSw; (try dsimp only at hSw); go_simp; all_goals (with_reducible rfl))); simp only [Act.put, List.setIfInBounds_toArray, List.set_cons_zero, List.set_cons_succ]
                  refine wpAnyH_take (i := 37) (v := ?vva37) rfl (by kernel_rfl) (by kernel_rfl) (by kernel_rfl) (fun _ _ _ h => h) (Or.inl ⟨by rfl, ?hya37⟩) hHeld ?resta37; (case hya37 => (intro w hSw; (try dsimp only at hSw); go_simp; all_goals (with_reducible rfl))); simp only [Act.put, List.setIfInBounds_toArray, List.set_cons_zero, List.set_cons_succ]
                  refine wpAnyH_take (i := 38) (v := ?vva38) rfl (by kernel_rfl) (by kernel_rfl) (by kernel_rfl) (fun _ _ _ h => h) (Or.inl ⟨by rfl, ?hya38⟩) hHeld ?resta38; (case hya38 => (intro w hSw; (try dsimp only at hSw); go_simp; all_goals (with_reducible rfl))); simp only [Act.put, List.setIfInBounds_toArray, List.set_cons_zero, List.set_cons_succ]
                  refine wpAnyH_take (i := 39) (v := ?vva39) rfl (by kernel_rfl) (by kernel_rfl) (by kernel_rfl) (fun _ _ _ h => h) (Or.inl ⟨by rfl, ?hya39⟩) hHeld ?resta39; (case hya39 => (intro w hSw; (try dsimp only at hSw); go_simp; all_goals (with_reducible rfl))); simp only [Act.put, List.setIfInBounds_toArray, List.set_cons_zero, List.set_cons_succ]
                  refine allocs_any2 (.cells #[.int .i64 0, .int .i64 0] 43) w2.drew [(40, 10), (41, 11), (42, 12), (43, 13)] 4 _ _ (by decide) (by decide) ?hop (by kernel_rfl) (fun wy hy => ?hsk) hHeld ?hrest
                  case hop =>
                    intro it hit K a0 wy hK
                    simp only [List.mem_cons, List.not_mem_nil, or_false] at hit
                    rcases hit with rfl | rfl | rfl | rfl
                    all_goals
                      refine wpOp_step rfl (fun K' hK' => ?_)
                      go_simp
                      exact hK' _ _ hK
                  case hsk =>
                    obtain ⟨h1, h2, h3, h4⟩ := hy
                    exact ⟨(World.cell?_alloc_some _ _ _ (by rw [h1]; rfl)).trans h1, (World.cell?_alloc_some _ _ _ (by rw [h2]; rfl)).trans h2, (World.cell?_alloc_some _ _ _ (by rw [h3]; rfl)).trans h3, (World.cell?_alloc_some _ _ _ (by rw [h4]; rfl)).trans h4⟩
                  case hrest =>
                    intro β wy hby hβ hinj hHeld
                    have f1 : w2.heap.size ≤ β 40 ∧ _ := hβ (40, 10) (by simp)
                    have f2 : w2.heap.size ≤ β 41 ∧ _ := hβ (41, 11) (by simp)
                    have f3 : w2.heap.size ≤ β 42 ∧ _ := hβ (42, 12) (by simp)
                    have f4 : w2.heap.size ≤ β 43 ∧ _ := hβ (43, 13) (by simp)
                    obtain ⟨f1, p1⟩ := f1
                    obtain ⟨f2, p2⟩ := f2
                    obtain ⟨f3, p3⟩ := f3
                    obtain ⟨f4, p4⟩ := f4
                    have n12 : β 40 ≠ β 41 := fun e => by have := hinj (40, 10) (by simp) (41, 11) (by simp) e; simp at this
                    have n13 : β 40 ≠ β 42 := fun e => by have := hinj (40, 10) (by simp) (42, 12) (by simp) e; simp at this
                    have n14 : β 40 ≠ β 43 := fun e => by have := hinj (40, 10) (by simp) (43, 13) (by simp) e; simp at this
                    have n23 : β 41 ≠ β 42 := fun e => by have := hinj (41, 11) (by simp) (42, 12) (by simp) e; simp at this
                    have n24 : β 41 ≠ β 43 := fun e => by have := hinj (41, 11) (by simp) (43, 13) (by simp) e; simp at this
                    have n34 : β 42 ≠ β 43 := fun e => by have := hinj (42, 12) (by simp) (43, 13) (by simp) e; simp at this
                    have Hbx : Hid (Below w2.heap.size w2 wy) := Lib.hid ((Below.refl _ w2).drew.trans hby)
                    clear hβ hinj hby
                    simp only [List.map_cons, List.map_nil, setAll, putAll, List.foldl_cons, List.foldl_nil, Act.put, List.setIfInBounds_toArray, List.set_cons_zero, List.set_cons_succ]
                    simp only at p1 p2 p3 p4
                    have P1 := Lib.hid p1
                    have P2 := Lib.hid p2
                    have P3 := Lib.hid p3
                    have P4 := Lib.hid p4
                    have m12 := n12.symm
                    have m13 := n13.symm
                    have m14 := n14.symm
                    have m23 := n23.symm
                    have m24 := n24.symm
                    have m34 := n34.symm
                    have a10 := cell_of_row wy (β 40) 0 _ _ _ p1
                    have z10 := frozen_of_row wy (β 40) 0 _ _ p1
                    have a11 := cell_of_row wy (β 40) 1 _ _ _ p1
                    have z11 := frozen_of_row wy (β 40) 1 _ _ p1
                    have a20 := cell_of_row wy (β 41) 0 _ _ _ p2
                    have z20 := frozen_of_row wy (β 41) 0 _ _ p2
                    have a21 := cell_of_row wy (β 41) 1 _ _ _ p2
                    have z21 := frozen_of_row wy (β 41) 1 _ _ p2
                    have a30 := cell_of_row wy (β 42) 0 _ _ _ p3
                    have z30 := frozen_of_row wy (β 42) 0 _ _ p3
                    have a31 := cell_of_row wy (β 42) 1 _ _ _ p3
                    have z31 := frozen_of_row wy (β 42) 1 _ _ p3
                    have a40 := cell_of_row wy (β 43) 0 _ _ _ p4
                    have z40 := frozen_of_row wy (β 43) 0 _ _ p4
                    have a41 := cell_of_row wy (β 43) 1 _ _ _ p4
                    have z41 := frozen_of_row wy (β 43) 1 _ _ p4
                    clear p1 p2 p3 p4
                    refine wpAnyH_ready (rs := [44]) (by kernel_rfl) (by simp) ?_; refine AllReadyH.cons rfl (fun K hK => ?_) AllReadyH.nil
                    go_simp
                    refine hK.out _ _ (HSb.out _ (by have hbx := Hbx.out; repeat' (first | with_reducible exact hbx | with_reducible refine Below.setCell ?_ ?_ _ | with_reducible assumption))) (fun hHeld => ?_)
                    clear hK K
                    (try simp only [Act.put, List.setIfInBounds_toArray, List.set_cons_zero, List.set_cons_succ])
                    refine wpAnyH_ready (rs := [45]) (by kernel_rfl) (by simp) ?_; refine AllReadyH.cons rfl (fun K hK => ?_) AllReadyH.nil
                    go_simp
                    refine hK.out _ _ (HSb.out _ (by have hbx := Hbx.out; repeat' (first | with_reducible exact hbx | with_reducible refine Below.setCell ?_ ?_ _ | with_reducible assumption))) (fun hHeld => ?_)
                    clear hK K
                    (try simp only [Act.put, List.setIfInBounds_toArray, List.set_cons_zero, List.set_cons_succ])
                    refine wpAnyH_ready (rs := [46]) (by kernel_rfl) (by simp) ?_; refine AllReadyH.cons rfl (fun K hK => ?_) AllReadyH.nil
                    go_simp
                    refine hK.out _ _ (HSb.out _ (by have hbx := Hbx.out; repeat' (first | with_reducible exact hbx | with_reducible refine Below.setCell ?_ ?_ _ | with_reducible assumption))) (fun hHeld => ?_)
                    clear hK K
                    (try simp only [Act.put, List.setIfInBounds_toArray, List.set_cons_zero, List.set_cons_succ])
                    refine wpAnyH_ready (rs := [47]) (by kernel_rfl) (by simp) ?_; refine AllReadyH.cons rfl (fun K hK => ?_) AllReadyH.nil
                    go_simp
                    refine hK.out _ _ (HSb.out _ (by have hbx := Hbx.out; repeat' (first | with_reducible exact hbx | with_reducible refine Below.setCell ?_ ?_ _ | with_reducible assumption))) (fun hHeld => ?_)
                    clear hK K
                    (try simp only [Act.put, List.setIfInBounds_toArray, List.set_cons_zero, List.set_cons_succ])
                    refine wpAnyH_done (by kernel_rfl) ?_ _
                    refine NoPanic.normal ?_
                    go_wp2
                    go_meet
                    case rel =>
                      obtain ⟨q1, q2, q3, q4⟩ := fill4_at (x := .int .i64 x) (x' := .int .i64 x') (y := .int .i64 y) (y' := .int .i64 y') n12 n13 n14 n23 n24 n34 P1.out P2.out P3.out P4.out
                      have hbf : Below w2.heap.size w2 (fill4 wy (β 40) (β 41) (β 42) (β 43) (.int .i64 x) (.int .i64 x') (.int .i64 y) (.int .i64 y')) := fill4_below Hbx.out f1 f2 f3 f4
                      exact ⟨β 40, β 41, β 42, β 43, rfl, rfl, rfl, rfl, ownsRow_below Hown2.out hbf, Hb12.out.trans (hbf.mono hs2), q1, q2, q3, q4, fun g hg => by have := Hlt2.out g hg; omega⟩
                case rest =>
                  obtain ⟨wx, rfl⟩ : ∃ wx : World, wx = wc := ⟨_, rfl⟩
                  obtain ⟨g1, g2, g3, g4, rfl, rfl, rfl, rfl, hst⟩ := hcut
                  have HSt0 := Lib.hid hst
                  have hwk1 : IntKind.i64.wrap ((k : Int) - 1) = (k : Int) - 1 := IntWalk.i64_in _ (by omega)
                  have hwi1 : IntKind.i64.wrap ((i : Int) - 1) = (i : Int) - 1 := IntWalk.i64_in _ (by omega)
                  obtain ⟨q1, hq1⟩ : ∃ q, inC l xs ys i ((k : Int) - 1) = q := ⟨_, rfl⟩
                  have HI1 := Lib.hid (fun W hW => HIn.out i ((k : Int) - 1) (by omega) (by omega) W hW)
                  rw [hq1] at HI1
                  obtain ⟨q2, hq2⟩ : ∃ q, inC l xs ys ((i : Int) + 1) (k) = q := ⟨_, rfl⟩
                  have HI2 := Lib.hid (fun W hW => HIn.out ((i : Int) + 1) k (by omega) (by omega) W hW)
                  rw [hq2] at HI2
                  obtain ⟨q3, hq3⟩ : ∃ q, inC l xs ys i ((k : Int) + 1) = q := ⟨_, rfl⟩
                  have HI3 := Lib.hid (fun W hW => HIn.out i ((k : Int) + 1) (by omega) (by omega) W hW)
                  rw [hq3] at HI3
                  obtain ⟨q4, hq4⟩ : ∃ q, inC l xs ys ((i : Int) - 1) (k) = q := ⟨_, rfl⟩
                  have HI4 := Lib.hid (fun W hW => HIn.out ((i : Int) - 1) k (by omega) (by omega) W hW)
                  rw [hq4] at HI4
                  have Hcell : Hid (cellR l xs ys i k = (if q1 then [] else [⟨x, y, x', y⟩]) ++ (if q2 then [] else [⟨x', y, x', y'⟩]) ++ (if q3 then [] else [⟨x', y', x, y'⟩]) ++ (if q4 then [] else [⟨x, y', x, y⟩])) := Lib.hid (by unfold cellR; rw [Hcl.out, if_pos rfl, hq1, hq2, hq3, hq4, Hx.out, Hx'.out, Hy.out, Hy'.out])
                  clear hst hq1 hq2 hq3 hq4 HIn HI0 Hb2 d0 d1 d2 d3
                  obtain ⟨bk0, hbk0⟩ : ∃ b, bk = b := ⟨_, rfl⟩
                  have Hbk0 := Lib.hid hbk0
                  rw [hbk0] at HSt0
                  have hbl0 : bk0.length ≤ 230400 := by rw [← hbk0]; exact hbk
                  clear hbk0
                  have cA1 : wx.cell? ⟨w.heap.size, 0, none⟩ = some (.slice A n c) := (HSt0.out.bel.cell (p := ⟨w.heap.size, 0, none⟩) hsw1).trans Hc1.out
                  go_upto_if 104 with (first
                    | (go_at_call 82
                       refine (HI1.out _ HSt0.out.bel).mono ?_
                       rintro e v1w ⟨rfl, hbv⟩
                       have HSv1 := Lib.hid (HSt0.out.below hbv)
                       clear hbv cA1)
                    | fail)
                  obtain ⟨bk1, hbk1⟩ : ∃ b, bk0 ++ (if q1 then [] else [⟨x, y, x', y⟩]) = b := ⟨_, rfl⟩
                  have Hbk1 := Lib.hid hbk1
                  have hbl1 : bk1.length ≤ 230401 := by rw [← hbk1, List.length_append]; cases q1 <;> simp <;> omega
                  clear hbk1
                  go_cut [7] (fun o wx => EdgeSt w1 wx o bk1 g1 g2 g3 g4 x x' y y')
                  case first =>
                    have r00 := cell_of_row v1w g1 0 _ _ _ HSv1.out.p1
                    have r01 := cell_of_row v1w g1 1 _ _ _ HSv1.out.p1
                    have r10 := cell_of_row v1w g2 0 _ _ _ HSv1.out.p2
                    have r11 := cell_of_row v1w g2 1 _ _ _ HSv1.out.p2
                    have r20 := cell_of_row v1w g3 0 _ _ _ HSv1.out.p3
                    have r21 := cell_of_row v1w g3 1 _ _ _ HSv1.out.p3
                    have r30 := cell_of_row v1w g4 0 _ _ _ HSv1.out.p4
                    have r31 := cell_of_row v1w g4 1 _ _ _ HSv1.out.p4
                    cases q1
                    case true =>
                      have Hsame : Hid (bk1 = bk0) := Lib.hid (by rw [← Hbk1.out]; simp)
                      go_wp2
                      go_meet
                      case rel => rw [Hsame.out]; exact HSv1.out
                    case false =>
                      have Hmore : Hid (bk1 = bk0 ++ [⟨x, y, x', y⟩]) := Lib.hid (by rw [← Hbk1.out]; simp)
                      go_wp2_with (first
                        | (at_builtin
                           refine wpList_append_any _ rfl (.tmp 105) (.tmp 109) _ rfl w1.heap.size 85 i0 _ 4 32 Tryz.underlying81 hi hz0 hz1 hz2 rfl (by omega) _ bk0.length (rCells bk0) rfl (HSv1.out.own.alloc _) _ _ 1 1 [.int .i64 x, .int .i64 y, .int .i64 x', .int .i64 y] rfl ⟨rfl, fun _ => ⟨_, rfl, Nat.lt_succ_self _, fun j u hu => (by exact news_any _ _ _ j u hu)⟩⟩ (by simp [Value.oneCell']) (by simp only [maxLen]; omega) (by omega) (by have := HSv1.out.bel.size; simp; omega) ?_
                           intro v5 w5 hown5 hg5 hat5
                           have Hnew : Hid (EdgeSt w1 w5 v5 bk1 g1 g2 g3 g4 x x' y y') := Lib.hid ((HSv1.out.below (by exact (by repeat' (first | with_reducible exact Below.refl _ _ | with_reducible refine below_drewN ?_ _ | with_reducible refine Below.drew ?_ | with_reducible refine Below.alloc ?_ ?_ _ | with_reducible refine Below.setCell ?_ ?_ _ | with_reducible refine Below.trans ?_ (Below.mono (by with_reducible assumption) ?_) | (simp; done) | (simp; omega) | omega)))).more hg5 (by rw [Hmore.out, List.length_append, rCells_snoc]; exact hown5) hat5)
                           clear hown5 hg5 hat5)
                        | fail)
                      go_meet
                      case rel => exact Hnew.out
                  case rest =>
                    obtain ⟨y1w, rfl⟩ : ∃ wx : World, wx = wc := ⟨_, rfl⟩
                    obtain ⟨o1, rfl⟩ : ∃ o, o = u7 := ⟨_, rfl⟩
                    have HSt1 := Lib.hid hcut
                    clear hcut HSv1
                    have cA2 : y1w.cell? ⟨w.heap.size, 0, none⟩ = some (.slice A n c) := (HSt1.out.bel.cell (p := ⟨w.heap.size, 0, none⟩) hsw1).trans Hc1.out
                    go_upto_if 118 with (first
                      | (go_at_call 82
                         refine (HI2.out _ HSt1.out.bel).mono ?_
                         rintro e v2w ⟨rfl, hbv⟩
                         have HSv2 := Lib.hid (HSt1.out.below hbv)
                         clear hbv cA2)
                      | fail)
                    obtain ⟨bk2, hbk2⟩ : ∃ b, bk1 ++ (if q2 then [] else [⟨x', y, x', y'⟩]) = b := ⟨_, rfl⟩
                    have Hbk2 := Lib.hid hbk2
                    have hbl2 : bk2.length ≤ 230402 := by rw [← hbk2, List.length_append]; cases q2 <;> simp <;> omega
                    clear hbk2
                    go_cut [7] (fun o wx => EdgeSt w1 wx o bk2 g1 g2 g3 g4 x x' y y')
                    case first =>
                      have r00 := cell_of_row v2w g1 0 _ _ _ HSv2.out.p1
                      have r01 := cell_of_row v2w g1 1 _ _ _ HSv2.out.p1
                      have r10 := cell_of_row v2w g2 0 _ _ _ HSv2.out.p2
                      have r11 := cell_of_row v2w g2 1 _ _ _ HSv2.out.p2
                      have r20 := cell_of_row v2w g3 0 _ _ _ HSv2.out.p3
                      have r21 := cell_of_row v2w g3 1 _ _ _ HSv2.out.p3
                      have r30 := cell_of_row v2w g4 0 _ _ _ HSv2.out.p4
                      have r31 := cell_of_row v2w g4 1 _ _ _ HSv2.out.p4
                      cases q2
                      case true =>
                        have Hsame : Hid (bk2 = bk1) := Lib.hid (by rw [← Hbk2.out]; simp)
                        go_wp2
                        go_meet
                        case rel => rw [Hsame.out]; exact HSv2.out
                      case false =>
                        have Hmore : Hid (bk2 = bk1 ++ [⟨x', y, x', y'⟩]) := Lib.hid (by rw [← Hbk2.out]; simp)
                        go_wp2_with (first
                          | (at_builtin
                             refine wpList_append_any _ rfl (.tmp 119) (.tmp 123) _ rfl w1.heap.size 85 i0 _ 4 32 Tryz.underlying81 hi hz0 hz1 hz2 rfl (by omega) _ bk1.length (rCells bk1) rfl (HSv2.out.own.alloc _) _ _ 1 1 [.int .i64 x', .int .i64 y, .int .i64 x', .int .i64 y'] rfl ⟨rfl, fun _ => ⟨_, rfl, Nat.lt_succ_self _, fun j u hu => (by exact news_any _ _ _ j u hu)⟩⟩ (by simp [Value.oneCell']) (by simp only [maxLen]; omega) (by omega) (by have := HSv2.out.bel.size; simp; omega) ?_
                             intro v5 w5 hown5 hg5 hat5
                             have Hnew : Hid (EdgeSt w1 w5 v5 bk2 g1 g2 g3 g4 x x' y y') := Lib.hid ((HSv2.out.below (by exact (by repeat' (first | with_reducible exact Below.refl _ _ | with_reducible refine below_drewN ?_ _ | with_reducible refine Below.drew ?_ | with_reducible refine Below.alloc ?_ ?_ _ | with_reducible refine Below.setCell ?_ ?_ _ | with_reducible refine Below.trans ?_ (Below.mono (by with_reducible assumption) ?_) | (simp; done) | (simp; omega) | omega)))).more hg5 (by rw [Hmore.out, List.length_append, rCells_snoc]; exact hown5) hat5)
                             clear hown5 hg5 hat5)
                          | fail)
                        go_meet
                        case rel => exact Hnew.out
                    case rest =>
                      obtain ⟨y2w, rfl⟩ : ∃ wx : World, wx = wc := ⟨_, rfl⟩
                      obtain ⟨o2, rfl⟩ : ∃ o, o = u7 := ⟨_, rfl⟩
                      have HSt2 := Lib.hid hcut
                      clear hcut HSv2
                      have cA3 : y2w.cell? ⟨w.heap.size, 0, none⟩ = some (.slice A n c) := (HSt2.out.bel.cell (p := ⟨w.heap.size, 0, none⟩) hsw1).trans Hc1.out
                      go_upto_if 132 with (first
                        | (go_at_call 82
                           refine (HI3.out _ HSt2.out.bel).mono ?_
                           rintro e v3w ⟨rfl, hbv⟩
                           have HSv3 := Lib.hid (HSt2.out.below hbv)
                           clear hbv cA3)
                        | fail)
                      obtain ⟨bk3, hbk3⟩ : ∃ b, bk2 ++ (if q3 then [] else [⟨x', y', x, y'⟩]) = b := ⟨_, rfl⟩
                      have Hbk3 := Lib.hid hbk3
                      have hbl3 : bk3.length ≤ 230403 := by rw [← hbk3, List.length_append]; cases q3 <;> simp <;> omega
                      clear hbk3
                      go_cut [7] (fun o wx => EdgeSt w1 wx o bk3 g1 g2 g3 g4 x x' y y')
                      case first =>
                        have r00 := cell_of_row v3w g1 0 _ _ _ HSv3.out.p1
                        have r01 := cell_of_row v3w g1 1 _ _ _ HSv3.out.p1
                        have r10 := cell_of_row v3w g2 0 _ _ _ HSv3.out.p2
                        have r11 := cell_of_row v3w g2 1 _ _ _ HSv3.out.p2
                        have r20 := cell_of_row v3w g3 0 _ _ _ HSv3.out.p3
                        have r21 := cell_of_row v3w g3 1 _ _ _ HSv3.out.p3
                        have r30 := cell_of_row v3w g4 0 _ _ _ HSv3.out.p4
                        have r31 := cell_of_row v3w g4 1 _ _ _ HSv3.out.p4
                        cases q3
                        case true =>
                          have Hsame : Hid (bk3 = bk2) := Lib.hid (by rw [← Hbk3.out]; simp)
                          go_wp2
                          go_meet
                          case rel => rw [Hsame.out]; exact HSv3.out
                        case false =>
                          have Hmore : Hid (bk3 = bk2 ++ [⟨x', y', x, y'⟩]) := Lib.hid (by rw [← Hbk3.out]; simp)
                          go_wp2_with (first
                            | (at_builtin
                               refine wpList_append_any _ rfl (.tmp 133) (.tmp 137) _ rfl w1.heap.size 85 i0 _ 4 32 Tryz.underlying81 hi hz0 hz1 hz2 rfl (by omega) _ bk2.length (rCells bk2) rfl (HSv3.out.own.alloc _) _ _ 1 1 [.int .i64 x', .int .i64 y', .int .i64 x, .int .i64 y'] rfl ⟨rfl, fun _ => ⟨_, rfl, Nat.lt_succ_self _, fun j u hu => (by exact news_any _ _ _ j u hu)⟩⟩ (by simp [Value.oneCell']) (by simp only [maxLen]; omega) (by omega) (by have := HSv3.out.bel.size; simp; omega) ?_
                               intro v5 w5 hown5 hg5 hat5
                               have Hnew : Hid (EdgeSt w1 w5 v5 bk3 g1 g2 g3 g4 x x' y y') := Lib.hid ((HSv3.out.below (by exact (by repeat' (first | with_reducible exact Below.refl _ _ | with_reducible refine below_drewN ?_ _ | with_reducible refine Below.drew ?_ | with_reducible refine Below.alloc ?_ ?_ _ | with_reducible refine Below.setCell ?_ ?_ _ | with_reducible refine Below.trans ?_ (Below.mono (by with_reducible assumption) ?_) | (simp; done) | (simp; omega) | omega)))).more hg5 (by rw [Hmore.out, List.length_append, rCells_snoc]; exact hown5) hat5)
                               clear hown5 hg5 hat5)
                            | fail)
                          go_meet
                          case rel => exact Hnew.out
                      case rest =>
                        obtain ⟨y3w, rfl⟩ : ∃ wx : World, wx = wc := ⟨_, rfl⟩
                        obtain ⟨o3, rfl⟩ : ∃ o, o = u7 := ⟨_, rfl⟩
                        have HSt3 := Lib.hid hcut
                        clear hcut HSv3
                        have cA4 : y3w.cell? ⟨w.heap.size, 0, none⟩ = some (.slice A n c) := (HSt3.out.bel.cell (p := ⟨w.heap.size, 0, none⟩) hsw1).trans Hc1.out
                        go_upto_if 146 with (first
                          | (go_at_call 82
                             refine (HI4.out _ HSt3.out.bel).mono ?_
                             rintro e v4w ⟨rfl, hbv⟩
                             have HSv4 := Lib.hid (HSt3.out.below hbv)
                             clear hbv cA4)
                          | fail)
                        obtain ⟨bk4, hbk4⟩ : ∃ b, bk3 ++ (if q4 then [] else [⟨x, y', x, y⟩]) = b := ⟨_, rfl⟩
                        have Hbk4 := Lib.hid hbk4
                        have hbl4 : bk4.length ≤ 230404 := by rw [← hbk4, List.length_append]; cases q4 <;> simp <;> omega
                        clear hbk4
                        have r00 := cell_of_row v4w g1 0 _ _ _ HSv4.out.p1
                        have r01 := cell_of_row v4w g1 1 _ _ _ HSv4.out.p1
                        have r10 := cell_of_row v4w g2 0 _ _ _ HSv4.out.p2
                        have r11 := cell_of_row v4w g2 1 _ _ _ HSv4.out.p2
                        have r20 := cell_of_row v4w g3 0 _ _ _ HSv4.out.p3
                        have r21 := cell_of_row v4w g3 1 _ _ _ HSv4.out.p3
                        have r30 := cell_of_row v4w g4 0 _ _ _ HSv4.out.p4
                        have r31 := cell_of_row v4w g4 1 _ _ _ HSv4.out.p4
                        cases q4
                        case true =>
                          have Hsame : Hid (bk4 = bk3) := Lib.hid (by rw [← Hbk4.out]; simp)
                          have HSx : Hid (EdgeSt w1 v4w o3 bk4 g1 g2 g3 g4 x x' y y') := Lib.hid (by rw [Hsame.out]; exact HSv4.out)
                          go_wp2
                          go_roundw
                          case rel =>
                            refine ⟨i + 1, by omega, by go_num, ?_, HSx.out.bel⟩
                            have e : dn ++ colsE l xs ys k (i + 1) = bk4 := by rw [HCs.out, Hcell.out, ← List.append_assoc, Hbke.out, Hbk0.out, ← Hbk4.out, ← Hbk3.out, ← Hbk2.out, ← Hbk1.out]; simp only [List.append_assoc]
                            rw [e]
                            exact HSx.out.own
                          case measure => simp [intOf]; omega
                        case false =>
                          have Hmore : Hid (bk4 = bk3 ++ [⟨x, y', x, y⟩]) := Lib.hid (by rw [← Hbk4.out]; simp)
                          go_wp2_with (first
                            | (at_builtin
                               refine wpList_append_any _ rfl (.tmp 147) (.tmp 151) _ rfl w1.heap.size 85 i0 _ 4 32 Tryz.underlying81 hi hz0 hz1 hz2 rfl (by omega) _ bk3.length (rCells bk3) rfl (HSv4.out.own.alloc _) _ _ 1 1 [.int .i64 x, .int .i64 y', .int .i64 x, .int .i64 y] rfl ⟨rfl, fun _ => ⟨_, rfl, Nat.lt_succ_self _, fun j u hu => (by exact news_any _ _ _ j u hu)⟩⟩ (by simp [Value.oneCell']) (by simp only [maxLen]; omega) (by omega) (by have := HSv4.out.bel.size; simp; omega) ?_
                               intro v5 w5 hown5 hg5 hat5
                               have Hnew : Hid (EdgeSt w1 w5 v5 bk4 g1 g2 g3 g4 x x' y y') := Lib.hid ((HSv4.out.below (by exact (by repeat' (first | with_reducible exact Below.refl _ _ | with_reducible refine below_drewN ?_ _ | with_reducible refine Below.drew ?_ | with_reducible refine Below.alloc ?_ ?_ _ | with_reducible refine Below.setCell ?_ ?_ _ | with_reducible refine Below.trans ?_ (Below.mono (by with_reducible assumption) ?_) | (simp; done) | (simp; omega) | omega)))).more hg5 (by rw [Hmore.out, List.length_append, rCells_snoc]; exact hown5) hat5)
                               clear hown5 hg5 hat5)
                            | fail)
                          go_roundw
                          case rel =>
                            refine ⟨i + 1, by omega, by go_num, ?_, Hnew.out.bel⟩
                            have e : dn ++ colsE l xs ys k (i + 1) = bk4 := by rw [HCs.out, Hcell.out, ← List.append_assoc, Hbke.out, Hbk0.out, ← Hbk4.out, ← Hbk3.out, ← Hbk2.out, ← Hbk1.out]; simp only [List.append_assoc]
                            rw [e]
                            exact Hnew.out.own
                          case measure => simp [intOf]; omega
            · have hin' : ¬ (i : Int) + 1 < (xs.length : Int) := by omega
              have hid' : decide ((i : Int) + 1 < (xs.length : Int)) = false := decide_eq_false hin'
              have hie : i = xs.length - 1 := by omega
              have Hown6 : Hid (wp.ownsRow w1.heap.size 85 4 up (rowsE l xs ys (k + 1)).length (rCells (rowsE l xs ys (k + 1)))) := Lib.hid (by rw [HTs.out, Hdn.out, ← hie]; exact Hownp.out)
              clear hown hbp hie
              go_wp2
              go_roundw
              case rel => exact ⟨k + 1, by omega, by go_num, Hown6.out, Hbp.out⟩
              case measure => simp [intOf]; omega
        · have hkn' : ¬ (k : Int) + 1 < (ys.length : Int) := by omega
          have hkd : decide ((k : Int) + 1 < (ys.length : Int)) = false := decide_eq_false hkn'
          have hke : k = ys.length - 1 := by omega
          have Hown6 : Hid (wo.ownsRow w1.heap.size 85 4 uo res.length (rCells res)) := Lib.hid (by rw [Hres.out, ← hke]; exact Hown.out)
          clear hown hbo hke
          go_wp2
          go_ret
          exact ⟨_, rfl, own_rebase Hown6.out (Nat.le_of_lt hsw1), Hbw1.out.trans (Hbo.out.mono (Nat.le_of_lt hsw1))⟩
end Go.Proofs.YtpcfhcdbibklcaaGreat
