/- Contract: Broken (keep); beside the text T, which has One. -/
import Derived.Test.YtglanlpjoaholaaGreatGs
import Derived.Test.YtglanlpjoaholaaGreatT
namespace Go.Proofs.YtglanlpjoaholaaGreat
open Go.RowKit
set_option linter.unusedVariables false
set_option linter.unusedSimpArgs false

/-- A list of rectangles that was broken in one of five ways. -/
def brkP (a : List R4) (k : Nat) (z : Int) : List R4 :=
  match a[k]? with
  | none => a
  | some q => if z = 0 then a.set k ⟨q.l, q.b, q.r + 1, q.t⟩ else if z = 1 then a.set k ⟨-1, q.b, q.r, q.t⟩ else if z = 2 then a ++ [q] else if z = 3 then (match a[0]? with | none => a | some p => (a.set 0 q).set k p) else a.set k ⟨q.l, q.b, q.r, q.b⟩
/-- What Broken makes of the tape, and what is left of it. -/
def mkBrk (r : List Int) (side most : Int) : List R4 × List Int :=
  if (mkReg r side most).1.length = 0 then mkReg r side most
  else if oneB (mkReg r side most).2 6 then (brkP (mkReg r side most).1 (nx (mkReg r side most).2.tail (mkReg r side most).1.length).toNat (nx (mkReg r side most).2.tail.tail 5), (mkReg r side most).2.tail.tail.tail)
  else ((mkReg r side most).1, (mkReg r side most).2.tail)
theorem brkP_len (a : List R4) (k : Nat) (z : Int) : (brkP a k z).length ≤ a.length + 1 := by
  unfold brkP
  split
  · omega
  · split
    · simp
    · split
      · simp
      · split
        · simp
        · split
          · split
            · omega
            · simp
          · simp
theorem mkBrk_len (r : List Int) (side most : Int) (hs : 1 ≤ side ∧ side ≤ 1000) (hm : 0 ≤ most ∧ most ≤ 7) : (mkBrk r side most).1.length ≤ 92 := by
  have h1 := (mkReg_reg r side most hs.1 hs.2 hm.1 hm.2).len
  obtain ⟨k, hk⟩ := Int.eq_ofNat_of_zero_le hm.1
  subst hk
  simp only [Int.toNat_natCast] at h1
  have h2 : (2 * k - 1) * k ≤ 13 * 7 := Nat.mul_le_mul (by omega) (by omega)
  unfold mkBrk
  split
  · omega
  · split
    · exact Nat.le_trans (brkP_len _ _ _) (by omega)
    · show (mkReg r side k).1.length ≤ 92
      omega
theorem brk_some {a : List R4} {k : Nat} (h : k < a.length) : a[k]? = some a[k] := List.getElem?_eq_getElem h
theorem rCells_set4 (l : List R4) (i : Nat) (h : i < l.length) (z : R4) : rCells (l.set i z) = ((((rCells l).set (i * 4) (.int .i64 z.l)).set (i * 4 + 1) (.int .i64 z.b)).set (i * 4 + 2) (.int .i64 z.r)).set (i * 4 + 3) (.int .i64 z.t) := by
  obtain ⟨p, q, e1, e2, e3⟩ := rCells_split l i h
  rw [e3, e1, ← e2]
  simp [List.set_append]
theorem rCells_setL (l : List R4) (i : Nat) (h : i < l.length) (x : Int) : rCells (l.set i ⟨x, l[i].b, l[i].r, l[i].t⟩) = (rCells l).set (i * 4) (.int .i64 x) := by
  obtain ⟨p, q, e1, e2, e3⟩ := rCells_split l i h
  rw [e3, e1, ← e2]
  simp [List.set_append]

theorem rCells_set0 (l : List R4) (h : 0 < l.length) (z : R4) : rCells (l.set 0 z) = ((((rCells l).set 0 (.int .i64 z.l)).set 1 (.int .i64 z.b)).set 2 (.int .i64 z.r)).set 3 (.int .i64 z.t) := rCells_set4 l 0 h z
theorem own_rectB {w : World} {base g n c : Nat} {l : List R4} (h : w.ownsRow base 64 4 (.slice (some ⟨g, 0, none⟩) n c) n (rCells l)) (i : Nat) (hi : i < l.length) (z : R4) :
    ((((w.setCell ⟨g, i * 4, none⟩ (.int .i64 z.l)).setCell ⟨g, i * 4 + 1, none⟩ (.int .i64 z.b)).setCell ⟨g, i * 4 + 2, none⟩ (.int .i64 z.r)).setCell ⟨g, i * 4 + 3, none⟩ (.int .i64 z.t)).ownsRow base 64 4 (.slice (some ⟨g, 0, none⟩) n c) n (rCells (l.set i z)) := by
  rw [rCells_set4 l i hi z]
  exact own_setN (own_setN (own_setN (own_setN h _ _) _ _) _ _) _ _
theorem own_rect0 {w : World} {base g n c : Nat} {l : List R4} (h : w.ownsRow base 64 4 (.slice (some ⟨g, 0, none⟩) n c) n (rCells l)) (hi : 0 < l.length) (z : R4) :
    ((((w.setCell ⟨g, 0, none⟩ (.int .i64 z.l)).setCell ⟨g, 1, none⟩ (.int .i64 z.b)).setCell ⟨g, 2, none⟩ (.int .i64 z.r)).setCell ⟨g, 3, none⟩ (.int .i64 z.t)).ownsRow base 64 4 (.slice (some ⟨g, 0, none⟩) n c) n (rCells (l.set 0 z)) := own_rectB h 0 hi z
theorem only4 {a w : World} {g : Nat} (h : a.grownBy w (some g)) {i j k l : Nat} {x y z u : Value} : a.grownBy ((((w.setCell ⟨g, i, none⟩ x).setCell ⟨g, j, none⟩ y).setCell ⟨g, k, none⟩ z).setCell ⟨g, l, none⟩ u) (some g) :=
  only_setCell (only_setCell (only_setCell (only_setCell h (.inl rfl) _) (.inl rfl) _) (.inl rfl) _) (.inl rfl) _
/-- What Broken has behind its turns: the list, the tape, the block of the result. -/
structure BrkW (w wx : World) (g : Nat) (v : Value) (l : List R4) (r : List Int) : Prop where
  own : wx.ownsRow (w.heap.size + 1) 64 4 v l.length (rCells l)
  tape : TapeAt wx g r
  grown : w.grownBy wx (some g)
  row : wx.heap[w.heap.size]? = some (.cells #[.slice none 0 0] 33 (0, 0))
theorem BrkW.size {w wx : World} {g : Nat} {v : Value} {l : List R4} {r : List Int} (h : BrkW w wx g v l r) : w.heap.size < wx.heap.size := by
  rcases Nat.lt_or_ge w.heap.size wx.heap.size with h1 | h1
  · exact h1
  · have := h.row; rw [Array.getElem?_eq_none h1] at this; cases this
theorem BrkW.c {w wx : World} {g : Nat} {v : Value} {l : List R4} {r : List Int} (h : BrkW w wx g v l r) : wx.cell? ⟨w.heap.size, 0, none⟩ = some (.slice none 0 0) := cell_of_row _ _ 0 _ _ _ h.row
theorem BrkW.f {w wx : World} {g : Nat} {v : Value} {l : List R4} {r : List Int} (h : BrkW w wx g v l r) : wx.frozen? ⟨w.heap.size, 0, none⟩ = false := frozen_of_row _ _ 0 _ _ h.row
theorem BrkW.same {w wx : World} {g : Nat} {v : Value} {l : List R4} {r : List Int} (h : BrkW w wx g v l r) (u : Value) : (wx.setCell ⟨w.heap.size, 0, none⟩ u).cell? ⟨w.heap.size, 0, none⟩ = some u := by
  rw [cell_of_row _ w.heap.size 0 _ _ _ (heap_setCell_same wx w.heap.size 0 _ _ _ h.row)]
  simp
theorem BrkW.ends {w wx : World} {g : Nat} {v : Value} {l : List R4} {r : List Int} (h : BrkW w wx g v l r) (hg : g < w.heap.size) : RegTPost w g (l, r) (.returned (.agg #[v])) (wx.setCell ⟨w.heap.size, 0, none⟩ v) := by
  refine ⟨v, rfl, ?_, ?_, ?_⟩
  · exact own_other (own_rebase h.own (by omega)) (only_setCell (g := w.heap.size) (World.grownBy.refl _ _) (.inl rfl) _) (fun k hk e => by injection e with e; have := own_base h.own k hk; omega)
  · exact h.tape.setCell (by simp; omega) _
  · exact only_setCell h.grown (.inr (Nat.le_refl _)) _
/-- A step that changes only the tape, or what is new. -/
theorem BrkW.step {w wx wy : World} {g : Nat} {v : Value} {l : List R4} {r r' : List Int} (h : BrkW w wx g v l r) (hg : wx.grownBy wy (some g)) (hlt : g < w.heap.size) (ht : TapeAt wy g r') : BrkW w wy g v l r' :=
  ⟨ownsRow_only h.own hg (by omega), ht, only_trans h.grown hg, (hg.block _ h.size (by intro e; injection e; omega)).trans h.row⟩
/-- The row is turned. -/
theorem BrkW.turn {w wx wy : World} {g G n c : Nat} {l l' : List R4} {r : List Int} (h : BrkW w wx g (.slice (some ⟨G, 0, none⟩) n c) l r) (hlt : g < w.heap.size) (hG : w.heap.size + 1 ≤ G) (hg : wx.grownBy wy (some G)) (ho : wy.ownsRow (w.heap.size + 1) 64 4 (.slice (some ⟨G, 0, none⟩) n c) n (rCells l')) (hn : l'.length = n) : BrkW w wy g (.slice (some ⟨G, 0, none⟩) n c) l' r := by
  subst hn
  refine ⟨ho, h.tape.grown hg (fun q hq => ?_), only_grown h.grown hg (fun q hq => by injection hq with hq; omega), (hg.block _ h.size (by intro e; injection e; omega)).trans h.row⟩
  injection hq with hq
  omega
/-- The row has grown. -/
theorem BrkW.more {w wx wy : World} {g : Nat} {v v' : Value} {l l' : List R4} {r : List Int} {row : Option Nat} (h : BrkW w wx g v l r) (hlt : g < w.heap.size) (hr : ∀ q, row = some q → w.heap.size + 1 ≤ q) (hg : wx.grownBy wy row) (ho : wy.ownsRow (w.heap.size + 1) 64 4 v' l'.length (rCells l')) : BrkW w wy g v' l' r := by
  refine ⟨ho, h.tape.grown hg (fun q hq => ?_), only_grown h.grown hg (fun q hq => by have := hr q hq; omega), (hg.block _ h.size (by intro e; have := hr _ e.symm; omega)).trans h.row⟩
  have := hr q hq
  omega
theorem BrkW.alloc {w wx : World} {g : Nat} {v : Value} {l : List R4} {r : List Int} (h : BrkW w wx g v l r) (hlt : g < w.heap.size) (o : Obj) : BrkW w (wx.alloc o) g v l r := h.step (only_alloc (World.grownBy.refl _ _) _) hlt (h.tape.alloc _)

theorem World.drew_brk {w wx : World} {g : Nat} {v : Value} {l : List R4} {r : List Int} (h : BrkW w wx g v l r) : BrkW w wx.drew g v l r := ⟨h.own.drew, h.tape.drew, only_drew h.grown, h.row⟩

set_option maxHeartbeats 16000000 in
set_option maxRecDepth 100000 in
theorem broken_any (g : Nat) (r : List Int) (side most : Int) (w : World) (ht : TapeAt w g r) (hs : 1 ≤ side ∧ side ≤ 1000) (hm : 0 ≤ most ∧ most ≤ 7) :
    Calls Tryz.prog 27 #[.pointer (some ⟨g, 0, none⟩), .int .i64 side, .int .i64 most] w (RegTPost w g (mkBrk r side most)) := by
  obtain ⟨i0, hi, hz0, hz1, hz2⟩ := info_parts Tryz.infoRect
  have hlt := ht.lt
  have HC := Lib.hid (fun W (hW : TapeAt W g r) => region_any g r side most W hW hs ⟨hm.1, by omega⟩)
  have HR := Lib.hid (mkReg_reg r side most hs.1 hs.2 hm.1 hm.2)
  obtain ⟨⟨ra, r1⟩, hp⟩ : ∃ p, mkReg r side most = p := ⟨_, rfl⟩
  rw [hp] at HC HR
  have Hbrk : Hid (mkBrk r side most = if ra.length = 0 then (ra, r1) else if oneB r1 6 then (brkP ra (nx r1.tail ra.length).toNat (nx r1.tail.tail 5), r1.tail.tail.tail) else (ra, r1.tail)) := Lib.hid (by unfold mkBrk; rw [hp])
  clear hp
  generalize mkBrk r side most = res at *
  have Hok : Hid (ra.all R4.ok = true) := Lib.hid (HR.out.ins.ok hs.2)
  have hn91 : ra.length ≤ 91 := by
    have h1 := HR.out.len
    obtain ⟨k, hk⟩ := Int.eq_ofNat_of_zero_le hm.1
    subst hk
    simp only [Int.toNat_natCast] at h1
    have h2 : (2 * k - 1) * k ≤ 13 * 7 := Nat.mul_le_mul (by omega) (by omega)
    omega
  clear HR
  obtain ⟨n, hn⟩ : ∃ n, ra.length = n := ⟨_, rfl⟩
  have Hn := Lib.hid hn
  rw [hn] at Hbrk hn91
  clear hn
  go_enter Tryz.func27, Tryz.ntmps27
  go_upto_region 1 with fail
  obtain ⟨wz, hwz⟩ : ∃ wz : World, wz = w.alloc (.cells #[.slice none 0 0] 33) := ⟨_, rfl⟩
  rw [← hwz]
  have HTz : Hid (TapeAt wz g r) := Lib.hid (by rw [hwz]; exact ht.alloc _)
  have Hrz : Hid (wz.heap[w.heap.size]? = some (.cells #[.slice none 0 0] 33 (0, 0))) := Lib.hid (by rw [hwz]; exact heap_alloc_new w _)
  have hsz : wz.heap.size = w.heap.size + 1 := by rw [hwz]; simp
  have Hgz : Hid (w.grownBy wz (some g)) := Lib.hid (by rw [hwz]; exact only_alloc (World.grownBy.refl _ _) _)
  clear hwz ht
  go_upto_region 2 with (first
    | (go_at_call 20
       refine (HC.out _ HTz.out).mono ?_
       rintro e w1 ⟨v1, rfl, hown1, ht1, hg1⟩
       simp only at hown1 ht1
       have Hown1 := Lib.hid hown1
       obtain ⟨A1, c1, rfl, hS1⟩ := SlR.of_own hown1
       rw [Hn.out] at hS1 ⊢
       have HS1 := Lib.hid hS1
       have HT1 := Lib.hid ht1
       have hs1 := hg1.size
       have Hr1 : Hid (w1.heap[w.heap.size]? = some (.cells #[.slice none 0 0] 33 (0, 0))) := Lib.hid ((hg1.block _ (by omega) (by intro e; injection e; omega)).trans Hrz.out)
       have Hg1 : Hid (w.grownBy w1 (some g)) := Lib.hid (only_trans Hgz.out hg1)
       clear hS1 ht1 hg1 hown1)
    | fail)
  obtain ⟨wa, hwa⟩ : ∃ wa : World, wa = w1.alloc (.cells #[.slice A1 n c1] 33) := ⟨_, rfl⟩
  rw [← hwa]
  have HSa : Hid (SlR wa A1 n c1 ra) := Lib.hid (by rw [hwa]; exact HS1.out.alloc _)
  have Hca : Hid (wa.heap[w1.heap.size]? = some (.cells #[.slice A1 n c1] 33 (0, 0))) := Lib.hid (by rw [hwa]; exact heap_alloc_new w1 _)
  have hsa : wa.heap.size = w1.heap.size + 1 := by rw [hwa]; simp
  have HWa : Hid (BrkW w wa g (.slice A1 n c1) ra r1) := Lib.hid (by
    rw [hwa]
    refine ⟨?_, HT1.out.alloc _, only_alloc Hg1.out _, (Below.heap_alloc w1 _ _ (by omega)).trans Hr1.out⟩
    have h1 := (own_rebase Hown1.out (base' := w.heap.size + 1) (by omega)).alloc (.cells #[.slice A1 n c1] 33)
    rwa [Hn.out] at h1 ⊢)
  have ca := cell_of_row wa w1.heap.size 0 _ _ _ Hca.out
  clear hwa HS1 HT1 Hr1 Hg1 Hown1 HTz Hrz Hgz HC
  by_cases hn0 : n = 0
  · have Hres : Hid (res = (ra, r1)) := Lib.hid (by rw [Hbrk.out, if_pos hn0])
    have hn0' : ((n : Nat) : Int) = 0 := by omega
    have hd0 : decide (n = 0) = true := decide_eq_true hn0
    have HWz : Hid (BrkW w wa g (.slice A1 0 c1) ra r1) := Lib.hid (by have := HWa.out; rwa [hn0] at this)
    have cE := HWz.out.c
    have fE := HWz.out.f
    have sE := HWz.out.same (.slice A1 0 c1)
    go_wp2
    refine bodyPost_ret (v := .agg #[.slice A1 0 c1]) (by simp [results, Tryz.results27, go_sem, *]) rfl ?_
    rw [Hres.out]
    exact HWz.out.ends hlt
  · have hn0N : 0 < n := by omega
    have hn0' : ¬ ((n : Nat) : Int) = 0 := by omega
    have hd0 : decide (n = 0) = false := decide_eq_false hn0
    have HO := Lib.hid (one_any g r1 6 wa HWa.out.tape (by omega) (by omega))
    have Hbrk2 : Hid (res = if oneB r1 6 then (brkP ra (nx r1.tail n).toNat (nx r1.tail.tail 5), r1.tail.tail.tail) else (ra, r1.tail)) := Lib.hid (by rw [Hbrk.out, if_neg hn0])
    clear Hbrk
    generalize oneB r1 6 = y at *
    cases y
    case false =>
      have Hres : Hid (res = (ra, r1.tail)) := Lib.hid (by rw [Hbrk2.out]; rfl)
      clear Hbrk2
      go_upto_region 3 with (first
        | (go_at_call 56
           refine HO.out.mono ?_
           rintro e w2 ⟨rfl, ht2, hg2⟩
           have HW2 := Lib.hid (HWa.out.step hg2 hlt ht2)
           have c2 := ((hg2.block _ (by omega) (by intro e; injection e; omega)).trans Hca.out)
           have ca2 := cell_of_row w2 w1.heap.size 0 _ _ _ c2
           clear ht2 hg2 c2)
        | fail)
      have cE := HW2.out.c
      have fE := HW2.out.f
      have sE := HW2.out.same (.slice A1 n c1)
      go_wp2
      refine bodyPost_ret (v := .agg #[.slice A1 n c1]) (by simp [results, Tryz.results27, go_sem, *]) rfl ?_
      rw [Hres.out]
      exact HW2.out.ends hlt
    case true =>
      have hbk := nx_bd r1.tail n (by omega)
      have hbz := nx_bd r1.tail.tail 5 (by omega)
      have Hres : Hid (res = (brkP ra (nx r1.tail n).toNat (nx r1.tail.tail 5), r1.tail.tail.tail)) := Lib.hid (by rw [Hbrk2.out]; rfl)
      have HN1 := Lib.hid (fun W (hW : TapeAt W g r1.tail) => next_any g r1.tail n W hW (by omega))
      have HN2 := Lib.hid (fun W (hW : TapeAt W g r1.tail.tail) => next_any g r1.tail.tail 5 W hW (by omega))
      obtain ⟨k, hk⟩ := Int.eq_ofNat_of_zero_le hbk.1
      rw [hk] at Hres HN1 hbk
      clear Hbrk2 hk
      generalize nx r1.tail.tail 5 = z at *
      have hkn : k < n := by omega
      go_upto_region 5 with (first
        | (go_at_call 56
           refine HO.out.mono ?_
           rintro e w2 ⟨rfl, ht2, hg2⟩
           have HW2 := Lib.hid (HWa.out.step hg2 hlt ht2)
           have c2 := ((hg2.block _ (by omega) (by intro e; injection e; omega)).trans Hca.out)
           have ca2 := cell_of_row w2 w1.heap.size 0 _ _ _ c2
           have hs2 := hg2.size
           have ca3 : ∀ o, (w2.alloc o).cell? ⟨w1.heap.size, 0, none⟩ = some (.slice A1 n c1) := fun o => by rw [World.cell?_alloc_lt w2 o _ (show w1.heap.size < w2.heap.size by omega)]; exact ca2
           have HS2 : Hid (Reads w2 w2.heap.size 4 A1 n (rCells ra)) := Lib.hid (by
             obtain ⟨A', c', h1, h2, _, _⟩ := own_slice HW2.out.own
             injection h1 with h1 _ _
             subst h1
             rw [Hn.out] at h2
             exact h2.reads (by rw [rCells_len, Hn.out]))
           clear ht2 hg2 c2)
        | (at_builtin
           refine wpList_append_any _ rfl (.tmp 24) (.tmp 26) 31 rfl w2.heap.size 64 i0 _ 4 32 Tryz.underlying31 hi hz0 hz1 hz2 rfl (by omega) (.slice (some ⟨w2.heap.size, 0, none⟩) 0 0) 0 [] rfl (own_zero w2 _ _ _ (Nat.le_refl _)) w2.heap.size A1 n c1 (rCells ra) rfl (HS2.out.alloc (Nat.le_refl _) _) (rCells_one ra) (by simp only [maxLen]; omega) (by omega) (by simp) ?_
           intro v5 w5 hown5 hg5 hat5)
        | fail)
      simp only [Nat.zero_add, List.nil_append] at hown5
      have HW5 : Hid (BrkW w w5 g v5 ra r1.tail) := Lib.hid ((HW2.out.alloc hlt _).more hlt (by intro q hq; simp [Value.ownBlock] at hq; omega) hg5 (by have := own_rebase hown5 (base' := w.heap.size + 1) (by omega); rwa [Hn.out]))
      clear hg5 hat5 hown5 HW2 HS2 HWa HSa Hca
      obtain ⟨G, gc, rfl, hGb, hGl, _, _, _, _⟩ := own_at HW5.out.own (by rw [Hn.out]; omega)
      rw [Hn.out] at HW5 ⊢
      go_upto_region 6 with (first
        | (go_at_call 25
           refine (HN1.out _ HW5.out.tape).mono ?_
           rintro e w6 ⟨rfl, ht6, hg6⟩
           have HW6 := Lib.hid (HW5.out.step hg6 hlt ht6)
           clear ht6 hg6)
        | fail)
      go_upto_region 8 with (first
        | (go_at_call 25
           refine (HN2.out _ HW6.out.tape).mono ?_
           rintro e w7 ⟨rfl, ht7, hg7⟩
           have HW7 := Lib.hid (HW6.out.step hg7 hlt ht7)
           clear ht7 hg7)
        | fail)
      obtain ⟨G', gc', hGe, hGb7, hGl7, _, _, hcells, hfr⟩ := own_at HW7.out.own (by rw [Hn.out]; omega)
      rw [Hn.out] at hGe
      injection hGe with hGe _ hGc
      injection hGe with hGe
      injection hGe with hGe _ _
      subst hGe hGc
      have hkr : k < ra.length := by rw [Hn.out]; exact hkn
      have h0r : 0 < ra.length := by rw [Hn.out]; omega
      have Hown7 : Hid (w7.ownsRow (w.heap.size + 1) 64 4 (.slice (some ⟨G, 0, none⟩) n gc) n (rCells ra)) := Lib.hid (by have := HW7.out.own; rwa [Hn.out] at this)
      have hq := brk_some hkr
      have hp0 := brk_some h0r
      have HqOk : Hid (0 ≤ ra[k].l ∧ ra[k].l < ra[k].r ∧ ra[k].r ≤ 16384 ∧ 0 ≤ ra[k].b ∧ ra[k].b < ra[k].t ∧ ra[k].t ≤ 16384) := Lib.hid ((R4.ok_iff _).1 (List.all_eq_true.1 Hok.out _ (List.getElem_mem hkr)))
      obtain ⟨k1, k2, k3, k4⟩ := rCells_at ra k hkr
      obtain ⟨l1, l2, l3, l4⟩ := rCells_at ra 0 h0r
      have d1 := hcells _ _ k1
      have d2 := hcells _ _ k2
      have d3 := hcells _ _ k3
      have d4 := hcells _ _ k4
      have e1 := hfr (k * 4)
      have e2 := hfr (k * 4 + 1)
      have e3 := hfr (k * 4 + 2)
      have e4 := hfr (k * 4 + 3)
      have HC3 := Lib.hid (And.intro (And.intro (hcells _ _ l1) (hcells _ _ l2)) (And.intro (And.intro (hcells _ _ l3) (hcells _ _ l4)) (And.intro (And.intro (hfr 0) (hfr 1)) (And.intro (hfr 2) (hfr 3)))))
      have hkn2 : (k : Int) < (n : Int) := by omega
      have hk0 : (0 : Int) ≤ (k : Int) := by omega
      have hn00 : (0 : Int) < (n : Int) := by omega
      obtain ⟨q, hqq⟩ : ∃ q, ra[k] = q := ⟨_, rfl⟩
      have Hqq := Lib.hid hqq
      rw [hqq] at hq d1 d2 d3 d4 HqOk
      have hqr := HqOk.out
      have hwr : IntKind.i64.wrap (q.r + 1) = q.r + 1 := IntWalk.i64_in _ (by omega)
      clear hcells hfr k1 k2 k3 k4 l1 l2 l3 l4 hqq hqr HN1 HN2
      rcases (show z = 0 ∨ z = 1 ∨ z = 2 ∨ z = 3 ∨ z = 4 by omega) with rfl | rfl | rfl | rfl | rfl
      · skip
        have Hres2 : Hid (res = (ra.set k ⟨q.l, q.b, q.r + 1, q.t⟩, r1.tail.tail.tail)) := Lib.hid (by rw [Hres.out]; simp [brkP, hq])
        have Hset := Lib.hid (rCells_setR ra k hkr (q.r + 1))
        rw [Hqq.out] at Hset
        clear HC3
        go_upto_region 16 with fail
        obtain ⟨wx, hwx⟩ : ∃ wx : World, wx = w7.setCell ⟨G, k * 4 + 2, none⟩ (.int .i64 (q.r + 1)) := ⟨_, rfl⟩
        rw [← hwx]
        have HWx : Hid (BrkW w wx g (.slice (some ⟨G, 0, none⟩) n gc) (ra.set k ⟨q.l, q.b, q.r + 1, q.t⟩) r1.tail.tail.tail) := Lib.hid (by
          rw [hwx]
          refine HW7.out.turn hlt hGb (only_setCell (World.grownBy.refl _ _) (.inl rfl) _) ?_ (by rw [List.length_set, Hn.out])
          rw [Hset.out]
          exact own_setN Hown7.out _ _)
        clear hwx
        have cE := HWx.out.c
        have fE := HWx.out.f
        have sE := HWx.out.same (.slice (some ⟨G, 0, none⟩) n gc)
        go_wp2
        refine bodyPost_ret (v := .agg #[.slice (some ⟨G, 0, none⟩) n gc]) (by simp [results, Tryz.results27, go_sem, *]) rfl ?_
        rw [Hres2.out]
        exact HWx.out.ends hlt
      · skip
        have Hres2 : Hid (res = (ra.set k ⟨-1, q.b, q.r, q.t⟩, r1.tail.tail.tail)) := Lib.hid (by rw [Hres.out]; simp [brkP, hq])
        have Hset := Lib.hid (rCells_setL ra k hkr (-1))
        rw [Hqq.out] at Hset
        clear HC3
        go_upto_region 16 with fail
        obtain ⟨wx, hwx⟩ : ∃ wx : World, wx = w7.setCell ⟨G, k * 4, none⟩ (.int .i64 (-1)) := ⟨_, rfl⟩
        rw [← hwx]
        have HWx : Hid (BrkW w wx g (.slice (some ⟨G, 0, none⟩) n gc) (ra.set k ⟨-1, q.b, q.r, q.t⟩) r1.tail.tail.tail) := Lib.hid (by
          rw [hwx]
          refine HW7.out.turn hlt hGb (only_setCell (World.grownBy.refl _ _) (.inl rfl) _) ?_ (by rw [List.length_set, Hn.out])
          rw [Hset.out]
          exact own_setN Hown7.out _ _)
        clear hwx
        have cE := HWx.out.c
        have fE := HWx.out.f
        have sE := HWx.out.same (.slice (some ⟨G, 0, none⟩) n gc)
        go_wp2
        refine bodyPost_ret (v := .agg #[.slice (some ⟨G, 0, none⟩) n gc]) (by simp [results, Tryz.results27, go_sem, *]) rfl ?_
        rw [Hres2.out]
        exact HWx.out.ends hlt
      · have Hres2 : Hid (res = (ra ++ [q], r1.tail.tail.tail)) := Lib.hid (by rw [Hres.out]; simp [brkP, hq])
        clear HC3
        go_upto_region 16 with (first
          | (at_builtin
             refine wpList_append_any _ rfl (.tmp 61) (.tmp 66) _ rfl (w.heap.size + 1) 64 i0 _ 4 32 Tryz.underlying31 hi hz0 hz1 hz2 rfl (by omega) (.slice (some ⟨G, 0, none⟩) n gc) n (rCells ra) rfl
               (Hown7.out.alloc _) _ _ 1 1 [.int .i64 q.l, .int .i64 q.b, .int .i64 q.r, .int .i64 q.t] rfl ⟨rfl, fun _ => ⟨_, rfl, Nat.lt_succ_self _, fun j u hu => (by exact news_any _ _ _ j u hu)⟩⟩ (by simp [Value.oneCell']) (by simp only [maxLen]; omega) (by omega) (by simp; omega) ?_
             intro v8 w8 hown8 hg8 hat8)
          | fail)
        have HW8 : Hid (BrkW w w8 g v8 (ra ++ [q]) r1.tail.tail.tail) := Lib.hid ((HW7.out.alloc hlt _).more hlt (by intro x hx; simp [Value.ownBlock] at hx; omega) hg8 (by rw [List.length_append, rCells_snoc, Hn.out]; exact hown8))
        have hl8 : (ra ++ [q]).length = n + 1 := by rw [List.length_append, Hn.out]; rfl
        clear hg8 hat8 hown8
        obtain ⟨A8, c8, rfl, _, _, _⟩ := own_slice HW8.out.own
        rw [hl8] at HW8 ⊢
        have cE := HW8.out.c
        have fE := HW8.out.f
        have sE := HW8.out.same (.slice A8 (n + 1) c8)
        go_wp2
        refine bodyPost_ret (v := .agg #[.slice A8 (n + 1) c8]) (by simp [results, Tryz.results27, go_sem, *]) rfl ?_
        rw [Hres2.out]
        exact HW8.out.ends hlt
      · have Hres2 : Hid (res = ((ra.set 0 q).set k ra[0], r1.tail.tail.tail)) := Lib.hid (by rw [Hres.out]; simp [brkP, hq, hp0])
        obtain ⟨⟨l1, l2⟩, ⟨l3, l4⟩, ⟨m1, m2⟩, m3, m4⟩ := HC3.out
        obtain ⟨p, hp⟩ : ∃ p, ra[0] = p := ⟨_, rfl⟩
        rw [hp] at Hres2 l1 l2 l3 l4
        simp only [Nat.zero_mul, Nat.zero_add] at l1 l2 l3 l4
        have Hp0 := Lib.hid hp
        clear hp hp0 HC3
        by_cases hk00 : k = 0
        · subst hk00
          obtain rfl : q = p := by rw [← Hqq.out, ← Hp0.out]
          simp only [Nat.zero_mul, Nat.zero_add] at d1 d2 d3 d4 e1 e2 e3 e4
          go_upto_region 15 with fail
          go_region
          obtain ⟨wx, hwx⟩ : ∃ wx : World, wx = ((((((((w7.setCell ⟨G, 0, none⟩ (.int .i64 q.l)).setCell ⟨G, 1, none⟩ (.int .i64 q.b)).setCell ⟨G, 2, none⟩ (.int .i64 q.r)).setCell ⟨G, 3, none⟩ (.int .i64 q.t)).setCell ⟨G, 0, none⟩ (.int .i64 q.l)).setCell ⟨G, 1, none⟩ (.int .i64 q.b)).setCell ⟨G, 2, none⟩ (.int .i64 q.r)).setCell ⟨G, 3, none⟩ (.int .i64 q.t)).drew := ⟨_, rfl⟩
          rw [← hwx]
          have HWx : Hid (BrkW w wx g (.slice (some ⟨G, 0, none⟩) n gc) ((ra.set 0 q).set 0 q) r1.tail.tail.tail) := Lib.hid (by
            rw [hwx]
            refine World.drew_brk (HW7.out.turn hlt hGb (only4 (only4 (World.grownBy.refl _ _))) ?_ (by rw [List.length_set, List.length_set, Hn.out]))
            exact own_rect0 (own_rect0 Hown7.out h0r q) (by rw [List.length_set]; exact h0r) q)
          clear hwx
          have cE := HWx.out.c
          have fE := HWx.out.f
          have sE := HWx.out.same (.slice (some ⟨G, 0, none⟩) n gc)
          go_wp2
          refine bodyPost_ret (v := .agg #[.slice (some ⟨G, 0, none⟩) n gc]) (by simp [results, Tryz.results27, go_sem, *]) rfl ?_
          rw [Hres2.out]
          exact HWx.out.ends hlt
        · have hk01 : ¬ 0 = k := fun h => hk00 h.symm
          have hk1 : ¬ k * 4 = 1 := by omega
          have hk2 : ¬ k * 4 = 2 := by omega
          have hk3 : ¬ k * 4 = 3 := by omega
          have hk4 : ¬ 1 = k * 4 := by omega
          have hk5 : ¬ 2 = k * 4 := by omega
          have hk6 : ¬ 3 = k * 4 := by omega
          go_upto_region 15 with fail
          go_region
          obtain ⟨wx, hwx⟩ : ∃ wx : World, wx = ((((((((w7.setCell ⟨G, 0, none⟩ (.int .i64 q.l)).setCell ⟨G, 1, none⟩ (.int .i64 q.b)).setCell ⟨G, 2, none⟩ (.int .i64 q.r)).setCell ⟨G, 3, none⟩ (.int .i64 q.t)).setCell ⟨G, k * 4, none⟩ (.int .i64 p.l)).setCell ⟨G, k * 4 + 1, none⟩ (.int .i64 p.b)).setCell ⟨G, k * 4 + 2, none⟩ (.int .i64 p.r)).setCell ⟨G, k * 4 + 3, none⟩ (.int .i64 p.t)).drew := ⟨_, rfl⟩
          rw [← hwx]
          have HWx : Hid (BrkW w wx g (.slice (some ⟨G, 0, none⟩) n gc) ((ra.set 0 q).set k p) r1.tail.tail.tail) := Lib.hid (by
            rw [hwx]
            refine World.drew_brk (HW7.out.turn hlt hGb (only4 (only4 (World.grownBy.refl _ _))) ?_ (by rw [List.length_set, List.length_set, Hn.out]))
            exact own_rectB (own_rect0 Hown7.out h0r q) k (by rw [List.length_set]; exact hkr) p)
          clear hwx
          have cE := HWx.out.c
          have fE := HWx.out.f
          have sE := HWx.out.same (.slice (some ⟨G, 0, none⟩) n gc)
          go_wp2
          refine bodyPost_ret (v := .agg #[.slice (some ⟨G, 0, none⟩) n gc]) (by simp [results, Tryz.results27, go_sem, *]) rfl ?_
          rw [Hres2.out]
          exact HWx.out.ends hlt
      · skip
        have Hres2 : Hid (res = (ra.set k ⟨q.l, q.b, q.r, q.b⟩, r1.tail.tail.tail)) := Lib.hid (by rw [Hres.out]; simp [brkP, hq])
        have Hset := Lib.hid (rCells_setT ra k hkr (q.b))
        rw [Hqq.out] at Hset
        clear HC3
        go_upto_region 16 with fail
        obtain ⟨wx, hwx⟩ : ∃ wx : World, wx = w7.setCell ⟨G, k * 4 + 3, none⟩ (.int .i64 (q.b)) := ⟨_, rfl⟩
        rw [← hwx]
        have HWx : Hid (BrkW w wx g (.slice (some ⟨G, 0, none⟩) n gc) (ra.set k ⟨q.l, q.b, q.r, q.b⟩) r1.tail.tail.tail) := Lib.hid (by
          rw [hwx]
          refine HW7.out.turn hlt hGb (only_setCell (World.grownBy.refl _ _) (.inl rfl) _) ?_ (by rw [List.length_set, Hn.out])
          rw [Hset.out]
          exact own_setN Hown7.out _ _)
        clear hwx
        have cE := HWx.out.c
        have fE := HWx.out.f
        have sE := HWx.out.same (.slice (some ⟨G, 0, none⟩) n gc)
        go_wp2
        refine bodyPost_ret (v := .agg #[.slice (some ⟨G, 0, none⟩) n gc]) (by simp [results, Tryz.results27, go_sem, *]) rfl ?_
        rw [Hres2.out]
        exact HWx.out.ends hlt
end Go.Proofs.YtglanlpjoaholaaGreat
