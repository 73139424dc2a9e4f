/- Contract: Broken (keep); beside the text T, which has One. -/
/- Contract: ring (the law's): a ring that is drawn by a tape. -/
/- Plain: a ring turned round. -/
/- OutlineTurns: the walk. -/
import Derived.Test.YtpcfhcdbibklcaaGreatGs
import Derived.Test.YtpcfhcdbibklcaaGreatT
import Derived.Test.YtpcfhcdbibklcaaGreatGM3
namespace Go.Proofs.YtpcfhcdbibklcaaGreat
open Go.RowKit
set_option linter.unusedVariables false
set_option linter.unusedSimpArgs false

/-- A list of rectangles that was broken in one of five ways. -/
def brkP (a : List R4) (k : Nat) (z : Int) : List R4 :=
  match a[k]? with
  | none => a
  | some q => if z = 0 then a.set k ⟨q.l, q.b, q.r + 1, q.t⟩ else if z = 1 then a.set k ⟨-1, q.b, q.r, q.t⟩ else if z = 2 then a ++ [q] else if z = 3 then (match a[0]? with | none => a | some p => (a.set 0 q).set k p) else a.set k ⟨q.l, q.b, q.r, q.b⟩
/-- What Broken makes of the tape, and what is left of it. -/
def mkBrk (r : List Int) (side most : Int) : List R4 × List Int :=
  if (mkReg r side most).1.length = 0 then mkReg r side most
  else if oneB (mkReg r side most).2 6 then (brkP (mkReg r side most).1 (nx (mkReg r side most).2.tail (mkReg r side most).1.length).toNat (nx (mkReg r side most).2.tail.tail 5), (mkReg r side most).2.tail.tail.tail)
  else ((mkReg r side most).1, (mkReg r side most).2.tail)
theorem brkP_len (a : List R4) (k : Nat) (z : Int) : (brkP a k z).length ≤ a.length + 1 := by
  unfold brkP
  split
  · omega
  · split
    · simp
    · split
      · simp
      · split
        · simp
        · split
          · split
            · omega
            · simp
          · simp
theorem mkBrk_len (r : List Int) (side most : Int) (hs : 1 ≤ side ∧ side ≤ 1000) (hm : 0 ≤ most ∧ most ≤ 7) : (mkBrk r side most).1.length ≤ 92 := by
  have h1 := (mkReg_reg r side most hs.1 hs.2 hm.1 hm.2).len
  obtain ⟨k, hk⟩ := Int.eq_ofNat_of_zero_le hm.1
  subst hk
  simp only [Int.toNat_natCast] at h1
  have h2 : (2 * k - 1) * k ≤ 13 * 7 := Nat.mul_le_mul (by omega) (by omega)
  unfold mkBrk
  split
  · omega
  · split
    · exact Nat.le_trans (brkP_len _ _ _) (by omega)
    · show (mkReg r side k).1.length ≤ 92
      omega
theorem brk_some {a : List R4} {k : Nat} (h : k < a.length) : a[k]? = some a[k] := List.getElem?_eq_getElem h
theorem rCells_set4 (l : List R4) (i : Nat) (h : i < l.length) (z : R4) : rCells (l.set i z) = ((((rCells l).set (i * 4) (.int .i64 z.l)).set (i * 4 + 1) (.int .i64 z.b)).set (i * 4 + 2) (.int .i64 z.r)).set (i * 4 + 3) (.int .i64 z.t) := by
  obtain ⟨p, q, e1, e2, e3⟩ := rCells_split l i h
  rw [e3, e1, ← e2]
  simp [List.set_append]
theorem rCells_setL (l : List R4) (i : Nat) (h : i < l.length) (x : Int) : rCells (l.set i ⟨x, l[i].b, l[i].r, l[i].t⟩) = (rCells l).set (i * 4) (.int .i64 x) := by
  obtain ⟨p, q, e1, e2, e3⟩ := rCells_split l i h
  rw [e3, e1, ← e2]
  simp [List.set_append]

theorem rCells_set0 (l : List R4) (h : 0 < l.length) (z : R4) : rCells (l.set 0 z) = ((((rCells l).set 0 (.int .i64 z.l)).set 1 (.int .i64 z.b)).set 2 (.int .i64 z.r)).set 3 (.int .i64 z.t) := rCells_set4 l 0 h z
theorem own_rectB {w : World} {base g n c : Nat} {l : List R4} (h : w.ownsRow base 58 4 (.slice (some ⟨g, 0, none⟩) n c) n (rCells l)) (i : Nat) (hi : i < l.length) (z : R4) :
    ((((w.setCell ⟨g, i * 4, none⟩ (.int .i64 z.l)).setCell ⟨g, i * 4 + 1, none⟩ (.int .i64 z.b)).setCell ⟨g, i * 4 + 2, none⟩ (.int .i64 z.r)).setCell ⟨g, i * 4 + 3, none⟩ (.int .i64 z.t)).ownsRow base 58 4 (.slice (some ⟨g, 0, none⟩) n c) n (rCells (l.set i z)) := by
  rw [rCells_set4 l i hi z]
  exact own_setN (own_setN (own_setN (own_setN h _ _) _ _) _ _) _ _
theorem own_rect0 {w : World} {base g n c : Nat} {l : List R4} (h : w.ownsRow base 58 4 (.slice (some ⟨g, 0, none⟩) n c) n (rCells l)) (hi : 0 < l.length) (z : R4) :
    ((((w.setCell ⟨g, 0, none⟩ (.int .i64 z.l)).setCell ⟨g, 1, none⟩ (.int .i64 z.b)).setCell ⟨g, 2, none⟩ (.int .i64 z.r)).setCell ⟨g, 3, none⟩ (.int .i64 z.t)).ownsRow base 58 4 (.slice (some ⟨g, 0, none⟩) n c) n (rCells (l.set 0 z)) := own_rectB h 0 hi z
theorem only4 {a w : World} {g : Nat} (h : a.grownBy w (some g)) {i j k l : Nat} {x y z u : Value} : a.grownBy ((((w.setCell ⟨g, i, none⟩ x).setCell ⟨g, j, none⟩ y).setCell ⟨g, k, none⟩ z).setCell ⟨g, l, none⟩ u) (some g) :=
  only_setCell (only_setCell (only_setCell (only_setCell h (.inl rfl) _) (.inl rfl) _) (.inl rfl) _) (.inl rfl) _
/-- What Broken has behind its turns: the list, the tape, the block of the result. -/
structure BrkW (w wx : World) (g : Nat) (v : Value) (l : List R4) (r : List Int) : Prop where
  own : wx.ownsRow (w.heap.size + 1) 58 4 v l.length (rCells l)
  tape : TapeAt wx g r
  grown : w.grownBy wx (some g)
  row : wx.heap[w.heap.size]? = some (.cells #[.slice none 0 0] 25 (0, 0))
theorem BrkW.size {w wx : World} {g : Nat} {v : Value} {l : List R4} {r : List Int} (h : BrkW w wx g v l r) : w.heap.size < wx.heap.size := by
  rcases Nat.lt_or_ge w.heap.size wx.heap.size with h1 | h1
  · exact h1
  · have := h.row; rw [Array.getElem?_eq_none h1] at this; cases this
theorem BrkW.c {w wx : World} {g : Nat} {v : Value} {l : List R4} {r : List Int} (h : BrkW w wx g v l r) : wx.cell? ⟨w.heap.size, 0, none⟩ = some (.slice none 0 0) := cell_of_row _ _ 0 _ _ _ h.row
theorem BrkW.f {w wx : World} {g : Nat} {v : Value} {l : List R4} {r : List Int} (h : BrkW w wx g v l r) : wx.frozen? ⟨w.heap.size, 0, none⟩ = false := frozen_of_row _ _ 0 _ _ h.row
theorem BrkW.same {w wx : World} {g : Nat} {v : Value} {l : List R4} {r : List Int} (h : BrkW w wx g v l r) (u : Value) : (wx.setCell ⟨w.heap.size, 0, none⟩ u).cell? ⟨w.heap.size, 0, none⟩ = some u := by
  rw [cell_of_row _ w.heap.size 0 _ _ _ (heap_setCell_same wx w.heap.size 0 _ _ _ h.row)]
  simp
theorem BrkW.ends {w wx : World} {g : Nat} {v : Value} {l : List R4} {r : List Int} (h : BrkW w wx g v l r) (hg : g < w.heap.size) : RegTPost w g (l, r) (.returned (.agg #[v])) (wx.setCell ⟨w.heap.size, 0, none⟩ v) := by
  refine ⟨v, rfl, ?_, ?_, ?_⟩
  · exact own_other (own_rebase h.own (by omega)) (only_setCell (g := w.heap.size) (World.grownBy.refl _ _) (.inl rfl) _) (fun k hk e => by injection e with e; have := own_base h.own k hk; omega)
  · exact h.tape.setCell (by simp; omega) _
  · exact only_setCell h.grown (.inr (Nat.le_refl _)) _
/-- A step that changes only the tape, or what is new. -/
theorem BrkW.step {w wx wy : World} {g : Nat} {v : Value} {l : List R4} {r r' : List Int} (h : BrkW w wx g v l r) (hg : wx.grownBy wy (some g)) (hlt : g < w.heap.size) (ht : TapeAt wy g r') : BrkW w wy g v l r' :=
  ⟨ownsRow_only h.own hg (by omega), ht, only_trans h.grown hg, (hg.block _ h.size (by intro e; injection e; omega)).trans h.row⟩
/-- The row is turned. -/
theorem BrkW.turn {w wx wy : World} {g G n c : Nat} {l l' : List R4} {r : List Int} (h : BrkW w wx g (.slice (some ⟨G, 0, none⟩) n c) l r) (hlt : g < w.heap.size) (hG : w.heap.size + 1 ≤ G) (hg : wx.grownBy wy (some G)) (ho : wy.ownsRow (w.heap.size + 1) 58 4 (.slice (some ⟨G, 0, none⟩) n c) n (rCells l')) (hn : l'.length = n) : BrkW w wy g (.slice (some ⟨G, 0, none⟩) n c) l' r := by
  subst hn
  refine ⟨ho, h.tape.grown hg (fun q hq => ?_), only_grown h.grown hg (fun q hq => by injection hq with hq; omega), (hg.block _ h.size (by intro e; injection e; omega)).trans h.row⟩
  injection hq with hq
  omega
/-- The row has grown. -/
theorem BrkW.more {w wx wy : World} {g : Nat} {v v' : Value} {l l' : List R4} {r : List Int} {row : Option Nat} (h : BrkW w wx g v l r) (hlt : g < w.heap.size) (hr : ∀ q, row = some q → w.heap.size + 1 ≤ q) (hg : wx.grownBy wy row) (ho : wy.ownsRow (w.heap.size + 1) 58 4 v' l'.length (rCells l')) : BrkW w wy g v' l' r := by
  refine ⟨ho, h.tape.grown hg (fun q hq => ?_), only_grown h.grown hg (fun q hq => by have := hr q hq; omega), (hg.block _ h.size (by intro e; have := hr _ e.symm; omega)).trans h.row⟩
  have := hr q hq
  omega
theorem BrkW.alloc {w wx : World} {g : Nat} {v : Value} {l : List R4} {r : List Int} (h : BrkW w wx g v l r) (hlt : g < w.heap.size) (o : Obj) : BrkW w (wx.alloc o) g v l r := h.step (only_alloc (World.grownBy.refl _ _) _) hlt (h.tape.alloc _)

theorem World.drew_brk {w wx : World} {g : Nat} {v : Value} {l : List R4} {r : List Int} (h : BrkW w wx g v l r) : BrkW w wx.drew g v l r := ⟨h.own.drew, h.tape.drew, only_drew h.grown, h.row⟩

set_option maxHeartbeats 16000000 in
set_option maxRecDepth 100000 in
theorem broken_any (g : Nat) (r : List Int) (side most : Int) (w : World) (ht : TapeAt w g r) (hs : 1 ≤ side ∧ side ≤ 1000) (hm : 0 ≤ most ∧ most ≤ 7) :
    Calls Tryz.prog 15 #[.pointer (some ⟨g, 0, none⟩), .int .i64 side, .int .i64 most] w (RegTPost w g (mkBrk r side most)) := by
  obtain ⟨i0, hi, hz0, hz1, hz2⟩ := info_parts Tryz.infoRect
  have hlt := ht.lt
  have HC := Lib.hid (fun W (hW : TapeAt W g r) => region_any g r side most W hW hs ⟨hm.1, by omega⟩)
  have HR := Lib.hid (mkReg_reg r side most hs.1 hs.2 hm.1 hm.2)
  obtain ⟨⟨ra, r1⟩, hp⟩ : ∃ p, mkReg r side most = p := ⟨_, rfl⟩
  rw [hp] at HC HR
  have Hbrk : Hid (mkBrk r side most = if ra.length = 0 then (ra, r1) else if oneB r1 6 then (brkP ra (nx r1.tail ra.length).toNat (nx r1.tail.tail 5), r1.tail.tail.tail) else (ra, r1.tail)) := Lib.hid (by unfold mkBrk; rw [hp])
  clear hp
  generalize mkBrk r side most = res at *
  have Hok : Hid (ra.all R4.ok = true) := Lib.hid (HR.out.ins.ok hs.2)
  have hn91 : ra.length ≤ 91 := by
    have h1 := HR.out.len
    obtain ⟨k, hk⟩ := Int.eq_ofNat_of_zero_le hm.1
    subst hk
    simp only [Int.toNat_natCast] at h1
    have h2 : (2 * k - 1) * k ≤ 13 * 7 := Nat.mul_le_mul (by omega) (by omega)
    omega
  clear HR
  obtain ⟨n, hn⟩ : ∃ n, ra.length = n := ⟨_, rfl⟩
  have Hn := Lib.hid hn
  rw [hn] at Hbrk hn91
  clear hn
  go_enter Tryz.func15, Tryz.ntmps15
  go_upto_region 1 with fail
  obtain ⟨wz, hwz⟩ : ∃ wz : World, wz = w.alloc (.cells #[.slice none 0 0] 25) := ⟨_, rfl⟩
  rw [← hwz]
  have HTz : Hid (TapeAt wz g r) := Lib.hid (by rw [hwz]; exact ht.alloc _)
  have Hrz : Hid (wz.heap[w.heap.size]? = some (.cells #[.slice none 0 0] 25 (0, 0))) := Lib.hid (by rw [hwz]; exact heap_alloc_new w _)
  have hsz : wz.heap.size = w.heap.size + 1 := by rw [hwz]; simp
  have Hgz : Hid (w.grownBy wz (some g)) := Lib.hid (by rw [hwz]; exact only_alloc (World.grownBy.refl _ _) _)
  clear hwz ht
  go_upto_region 2 with (first
    | (go_at_call 9
       refine (HC.out _ HTz.out).mono ?_
       rintro e w1 ⟨v1, rfl, hown1, ht1, hg1⟩
       simp only at hown1 ht1
       have Hown1 := Lib.hid hown1
       obtain ⟨A1, c1, rfl, hS1⟩ := SlR.of_own hown1
       rw [Hn.out] at hS1 ⊢
       have HS1 := Lib.hid hS1
       have HT1 := Lib.hid ht1
       have hs1 := hg1.size
       have Hr1 : Hid (w1.heap[w.heap.size]? = some (.cells #[.slice none 0 0] 25 (0, 0))) := Lib.hid ((hg1.block _ (by omega) (by intro e; injection e; omega)).trans Hrz.out)
       have Hg1 : Hid (w.grownBy w1 (some g)) := Lib.hid (only_trans Hgz.out hg1)
       clear hS1 ht1 hg1 hown1)
    | fail)
  obtain ⟨wa, hwa⟩ : ∃ wa : World, wa = w1.alloc (.cells #[.slice A1 n c1] 25) := ⟨_, rfl⟩
  rw [← hwa]
  have HSa : Hid (SlR wa A1 n c1 ra) := Lib.hid (by rw [hwa]; exact HS1.out.alloc _)
  have Hca : Hid (wa.heap[w1.heap.size]? = some (.cells #[.slice A1 n c1] 25 (0, 0))) := Lib.hid (by rw [hwa]; exact heap_alloc_new w1 _)
  have hsa : wa.heap.size = w1.heap.size + 1 := by rw [hwa]; simp
  have HWa : Hid (BrkW w wa g (.slice A1 n c1) ra r1) := Lib.hid (by
    rw [hwa]
    refine ⟨?_, HT1.out.alloc _, only_alloc Hg1.out _, (Below.heap_alloc w1 _ _ (by omega)).trans Hr1.out⟩
    have h1 := (own_rebase Hown1.out (base' := w.heap.size + 1) (by omega)).alloc (.cells #[.slice A1 n c1] 25)
    rwa [Hn.out] at h1 ⊢)
  have ca := cell_of_row wa w1.heap.size 0 _ _ _ Hca.out
  clear hwa HS1 HT1 Hr1 Hg1 Hown1 HTz Hrz Hgz HC
  by_cases hn0 : n = 0
  · have Hres : Hid (res = (ra, r1)) := Lib.hid (by rw [Hbrk.out, if_pos hn0])
    have hn0' : ((n : Nat) : Int) = 0 := by omega
    have hd0 : decide (n = 0) = true := decide_eq_true hn0
    have HWz : Hid (BrkW w wa g (.slice A1 0 c1) ra r1) := Lib.hid (by have := HWa.out; rwa [hn0] at this)
    have cE := HWz.out.c
    have fE := HWz.out.f
    have sE := HWz.out.same (.slice A1 0 c1)
    go_wp2
    refine bodyPost_ret (v := .agg #[.slice A1 0 c1]) (by simp [results, Tryz.results15, go_sem, *]) rfl ?_
    rw [Hres.out]
    exact HWz.out.ends hlt
  · have hn0N : 0 < n := by omega
    have hn0' : ¬ ((n : Nat) : Int) = 0 := by omega
    have hd0 : decide (n = 0) = false := decide_eq_false hn0
    have HO := Lib.hid (one_any g r1 6 wa HWa.out.tape (by omega) (by omega))
    have Hbrk2 : Hid (res = if oneB r1 6 then (brkP ra (nx r1.tail n).toNat (nx r1.tail.tail 5), r1.tail.tail.tail) else (ra, r1.tail)) := Lib.hid (by rw [Hbrk.out, if_neg hn0])
    clear Hbrk
    generalize oneB r1 6 = y at *
    cases y
    case false =>
      have Hres : Hid (res = (ra, r1.tail)) := Lib.hid (by rw [Hbrk2.out]; rfl)
      clear Hbrk2
      go_upto_region 3 with (first
        | (go_at_call 45
           refine HO.out.mono ?_
           rintro e w2 ⟨rfl, ht2, hg2⟩
           have HW2 := Lib.hid (HWa.out.step hg2 hlt ht2)
           have c2 := ((hg2.block _ (by omega) (by intro e; injection e; omega)).trans Hca.out)
           have ca2 := cell_of_row w2 w1.heap.size 0 _ _ _ c2
           clear ht2 hg2 c2)
        | fail)
      have cE := HW2.out.c
      have fE := HW2.out.f
      have sE := HW2.out.same (.slice A1 n c1)
      go_wp2
      refine bodyPost_ret (v := .agg #[.slice A1 n c1]) (by simp [results, Tryz.results15, go_sem, *]) rfl ?_
      rw [Hres.out]
      exact HW2.out.ends hlt
    case true =>
      have hbk := nx_bd r1.tail n (by omega)
      have hbz := nx_bd r1.tail.tail 5 (by omega)
      have Hres : Hid (res = (brkP ra (nx r1.tail n).toNat (nx r1.tail.tail 5), r1.tail.tail.tail)) := Lib.hid (by rw [Hbrk2.out]; rfl)
      have HN1 := Lib.hid (fun W (hW : TapeAt W g r1.tail) => next_any g r1.tail n W hW (by omega))
      have HN2 := Lib.hid (fun W (hW : TapeAt W g r1.tail.tail) => next_any g r1.tail.tail 5 W hW (by omega))
      obtain ⟨k, hk⟩ := Int.eq_ofNat_of_zero_le hbk.1
      rw [hk] at Hres HN1 hbk
      clear Hbrk2 hk
      generalize nx r1.tail.tail 5 = z at *
      have hkn : k < n := by omega
      go_upto_region 5 with (first
        | (go_at_call 45
           refine HO.out.mono ?_
           rintro e w2 ⟨rfl, ht2, hg2⟩
           have HW2 := Lib.hid (HWa.out.step hg2 hlt ht2)
           have c2 := ((hg2.block _ (by omega) (by intro e; injection e; omega)).trans Hca.out)
           have ca2 := cell_of_row w2 w1.heap.size 0 _ _ _ c2
           have hs2 := hg2.size
           have ca3 : ∀ o, (w2.alloc o).cell? ⟨w1.heap.size, 0, none⟩ = some (.slice A1 n c1) := fun o => by rw [World.cell?_alloc_lt w2 o _ (show w1.heap.size < w2.heap.size by omega)]; exact ca2
           have HS2 : Hid (Reads w2 w2.heap.size 4 A1 n (rCells ra)) := Lib.hid (by
             obtain ⟨A', c', h1, h2, _, _⟩ := own_slice HW2.out.own
             injection h1 with h1 _ _
             subst h1
             rw [Hn.out] at h2
             exact h2.reads (by rw [rCells_len, Hn.out]))
           clear ht2 hg2 c2)
        | (at_builtin
           refine wpList_append_any _ rfl (.tmp 24) (.tmp 26) 23 rfl w2.heap.size 58 i0 _ 4 32 Tryz.underlying23 hi hz0 hz1 hz2 rfl (by omega) (.slice (some ⟨w2.heap.size, 0, none⟩) 0 0) 0 [] rfl (own_zero w2 _ _ _ (Nat.le_refl _)) w2.heap.size A1 n c1 (rCells ra) rfl (HS2.out.alloc (Nat.le_refl _) _) (rCells_one ra) (by simp only [maxLen]; omega) (by omega) (by simp) ?_
           intro v5 w5 hown5 hg5 hat5)
        | fail)
      simp only [Nat.zero_add, List.nil_append] at hown5
      have HW5 : Hid (BrkW w w5 g v5 ra r1.tail) := Lib.hid ((HW2.out.alloc hlt _).more hlt (by intro q hq; simp [Value.ownBlock] at hq; omega) hg5 (by have := own_rebase hown5 (base' := w.heap.size + 1) (by omega); rwa [Hn.out]))
      clear hg5 hat5 hown5 HW2 HS2 HWa HSa Hca
      obtain ⟨G, gc, rfl, hGb, hGl, _, _, _, _⟩ := own_at HW5.out.own (by rw [Hn.out]; omega)
      rw [Hn.out] at HW5 ⊢
      go_upto_region 6 with (first
        | (go_at_call 27
           refine (HN1.out _ HW5.out.tape).mono ?_
           rintro e w6 ⟨rfl, ht6, hg6⟩
           have HW6 := Lib.hid (HW5.out.step hg6 hlt ht6)
           clear ht6 hg6)
        | fail)
      go_upto_region 8 with (first
        | (go_at_call 27
           refine (HN2.out _ HW6.out.tape).mono ?_
           rintro e w7 ⟨rfl, ht7, hg7⟩
           have HW7 := Lib.hid (HW6.out.step hg7 hlt ht7)
           clear ht7 hg7)
        | fail)
      obtain ⟨G', gc', hGe, hGb7, hGl7, _, _, hcells, hfr⟩ := own_at HW7.out.own (by rw [Hn.out]; omega)
      rw [Hn.out] at hGe
      injection hGe with hGe _ hGc
      injection hGe with hGe
      injection hGe with hGe _ _
      subst hGe hGc
      have hkr : k < ra.length := by rw [Hn.out]; exact hkn
      have h0r : 0 < ra.length := by rw [Hn.out]; omega
      have Hown7 : Hid (w7.ownsRow (w.heap.size + 1) 58 4 (.slice (some ⟨G, 0, none⟩) n gc) n (rCells ra)) := Lib.hid (by have := HW7.out.own; rwa [Hn.out] at this)
      have hq := brk_some hkr
      have hp0 := brk_some h0r
      have HqOk : Hid (0 ≤ ra[k].l ∧ ra[k].l < ra[k].r ∧ ra[k].r ≤ 16384 ∧ 0 ≤ ra[k].b ∧ ra[k].b < ra[k].t ∧ ra[k].t ≤ 16384) := Lib.hid ((R4.ok_iff _).1 (List.all_eq_true.1 Hok.out _ (List.getElem_mem hkr)))
      obtain ⟨k1, k2, k3, k4⟩ := rCells_at ra k hkr
      obtain ⟨l1, l2, l3, l4⟩ := rCells_at ra 0 h0r
      have d1 := hcells _ _ k1
      have d2 := hcells _ _ k2
      have d3 := hcells _ _ k3
      have d4 := hcells _ _ k4
      have e1 := hfr (k * 4)
      have e2 := hfr (k * 4 + 1)
      have e3 := hfr (k * 4 + 2)
      have e4 := hfr (k * 4 + 3)
      have HC3 := Lib.hid (And.intro (And.intro (hcells _ _ l1) (hcells _ _ l2)) (And.intro (And.intro (hcells _ _ l3) (hcells _ _ l4)) (And.intro (And.intro (hfr 0) (hfr 1)) (And.intro (hfr 2) (hfr 3)))))
      have hkn2 : (k : Int) < (n : Int) := by omega
      have hk0 : (0 : Int) ≤ (k : Int) := by omega
      have hn00 : (0 : Int) < (n : Int) := by omega
      obtain ⟨q, hqq⟩ : ∃ q, ra[k] = q := ⟨_, rfl⟩
      have Hqq := Lib.hid hqq
      rw [hqq] at hq d1 d2 d3 d4 HqOk
      have hqr := HqOk.out
      have hwr : IntKind.i64.wrap (q.r + 1) = q.r + 1 := IntWalk.i64_in _ (by omega)
      clear hcells hfr k1 k2 k3 k4 l1 l2 l3 l4 hqq hqr HN1 HN2
      rcases (show z = 0 ∨ z = 1 ∨ z = 2 ∨ z = 3 ∨ z = 4 by omega) with rfl | rfl | rfl | rfl | rfl
      · skip
        have Hres2 : Hid (res = (ra.set k ⟨q.l, q.b, q.r + 1, q.t⟩, r1.tail.tail.tail)) := Lib.hid (by rw [Hres.out]; simp [brkP, hq])
        have Hset := Lib.hid (rCells_setR ra k hkr (q.r + 1))
        rw [Hqq.out] at Hset
        clear HC3
        go_upto_region 16 with fail
        obtain ⟨wx, hwx⟩ : ∃ wx : World, wx = w7.setCell ⟨G, k * 4 + 2, none⟩ (.int .i64 (q.r + 1)) := ⟨_, rfl⟩
        rw [← hwx]
        have HWx : Hid (BrkW w wx g (.slice (some ⟨G, 0, none⟩) n gc) (ra.set k ⟨q.l, q.b, q.r + 1, q.t⟩) r1.tail.tail.tail) := Lib.hid (by
          rw [hwx]
          refine HW7.out.turn hlt hGb (only_setCell (World.grownBy.refl _ _) (.inl rfl) _) ?_ (by rw [List.length_set, Hn.out])
          rw [Hset.out]
          exact own_setN Hown7.out _ _)
        clear hwx
        have cE := HWx.out.c
        have fE := HWx.out.f
        have sE := HWx.out.same (.slice (some ⟨G, 0, none⟩) n gc)
        go_wp2
        refine bodyPost_ret (v := .agg #[.slice (some ⟨G, 0, none⟩) n gc]) (by simp [results, Tryz.results15, go_sem, *]) rfl ?_
        rw [Hres2.out]
        exact HWx.out.ends hlt
      · skip
        have Hres2 : Hid (res = (ra.set k ⟨-1, q.b, q.r, q.t⟩, r1.tail.tail.tail)) := Lib.hid (by rw [Hres.out]; simp [brkP, hq])
        have Hset := Lib.hid (rCells_setL ra k hkr (-1))
        rw [Hqq.out] at Hset
        clear HC3
        go_upto_region 16 with fail
        obtain ⟨wx, hwx⟩ : ∃ wx : World, wx = w7.setCell ⟨G, k * 4, none⟩ (.int .i64 (-1)) := ⟨_, rfl⟩
        rw [← hwx]
        have HWx : Hid (BrkW w wx g (.slice (some ⟨G, 0, none⟩) n gc) (ra.set k ⟨-1, q.b, q.r, q.t⟩) r1.tail.tail.tail) := Lib.hid (by
          rw [hwx]
          refine HW7.out.turn hlt hGb (only_setCell (World.grownBy.refl _ _) (.inl rfl) _) ?_ (by rw [List.length_set, Hn.out])
          rw [Hset.out]
          exact own_setN Hown7.out _ _)
        clear hwx
        have cE := HWx.out.c
        have fE := HWx.out.f
        have sE := HWx.out.same (.slice (some ⟨G, 0, none⟩) n gc)
        go_wp2
        refine bodyPost_ret (v := .agg #[.slice (some ⟨G, 0, none⟩) n gc]) (by simp [results, Tryz.results15, go_sem, *]) rfl ?_
        rw [Hres2.out]
        exact HWx.out.ends hlt
      · have Hres2 : Hid (res = (ra ++ [q], r1.tail.tail.tail)) := Lib.hid (by rw [Hres.out]; simp [brkP, hq])
        clear HC3
        go_upto_region 16 with (first
          | (at_builtin
             refine wpList_append_any _ rfl (.tmp 61) (.tmp 66) _ rfl (w.heap.size + 1) 58 i0 _ 4 32 Tryz.underlying23 hi hz0 hz1 hz2 rfl (by omega) (.slice (some ⟨G, 0, none⟩) n gc) n (rCells ra) rfl
               (Hown7.out.alloc _) _ _ 1 1 [.int .i64 q.l, .int .i64 q.b, .int .i64 q.r, .int .i64 q.t] rfl ⟨rfl, fun _ => ⟨_, rfl, Nat.lt_succ_self _, fun j u hu => (by exact news_any _ _ _ j u hu)⟩⟩ (by simp [Value.oneCell']) (by simp only [maxLen]; omega) (by omega) (by simp; omega) ?_
             intro v8 w8 hown8 hg8 hat8)
          | fail)
        have HW8 : Hid (BrkW w w8 g v8 (ra ++ [q]) r1.tail.tail.tail) := Lib.hid ((HW7.out.alloc hlt _).more hlt (by intro x hx; simp [Value.ownBlock] at hx; omega) hg8 (by rw [List.length_append, rCells_snoc, Hn.out]; exact hown8))
        have hl8 : (ra ++ [q]).length = n + 1 := by rw [List.length_append, Hn.out]; rfl
        clear hg8 hat8 hown8
        obtain ⟨A8, c8, rfl, _, _, _⟩ := own_slice HW8.out.own
        rw [hl8] at HW8 ⊢
        have cE := HW8.out.c
        have fE := HW8.out.f
        have sE := HW8.out.same (.slice A8 (n + 1) c8)
        go_wp2
        refine bodyPost_ret (v := .agg #[.slice A8 (n + 1) c8]) (by simp [results, Tryz.results15, go_sem, *]) rfl ?_
        rw [Hres2.out]
        exact HW8.out.ends hlt
      · have Hres2 : Hid (res = ((ra.set 0 q).set k ra[0], r1.tail.tail.tail)) := Lib.hid (by rw [Hres.out]; simp [brkP, hq, hp0])
        obtain ⟨⟨l1, l2⟩, ⟨l3, l4⟩, ⟨m1, m2⟩, m3, m4⟩ := HC3.out
        obtain ⟨p, hp⟩ : ∃ p, ra[0] = p := ⟨_, rfl⟩
        rw [hp] at Hres2 l1 l2 l3 l4
        simp only [Nat.zero_mul, Nat.zero_add] at l1 l2 l3 l4
        have Hp0 := Lib.hid hp
        clear hp hp0 HC3
        by_cases hk00 : k = 0
        · subst hk00
          obtain rfl : q = p := by rw [← Hqq.out, ← Hp0.out]
          simp only [Nat.zero_mul, Nat.zero_add] at d1 d2 d3 d4 e1 e2 e3 e4
          go_upto_region 15 with fail
          go_region
          obtain ⟨wx, hwx⟩ : ∃ wx : World, wx = ((((((((w7.setCell ⟨G, 0, none⟩ (.int .i64 q.l)).setCell ⟨G, 1, none⟩ (.int .i64 q.b)).setCell ⟨G, 2, none⟩ (.int .i64 q.r)).setCell ⟨G, 3, none⟩ (.int .i64 q.t)).setCell ⟨G, 0, none⟩ (.int .i64 q.l)).setCell ⟨G, 1, none⟩ (.int .i64 q.b)).setCell ⟨G, 2, none⟩ (.int .i64 q.r)).setCell ⟨G, 3, none⟩ (.int .i64 q.t)).drew := ⟨_, rfl⟩
          rw [← hwx]
          have HWx : Hid (BrkW w wx g (.slice (some ⟨G, 0, none⟩) n gc) ((ra.set 0 q).set 0 q) r1.tail.tail.tail) := Lib.hid (by
            rw [hwx]
            refine World.drew_brk (HW7.out.turn hlt hGb (only4 (only4 (World.grownBy.refl _ _))) ?_ (by rw [List.length_set, List.length_set, Hn.out]))
            exact own_rect0 (own_rect0 Hown7.out h0r q) (by rw [List.length_set]; exact h0r) q)
          clear hwx
          have cE := HWx.out.c
          have fE := HWx.out.f
          have sE := HWx.out.same (.slice (some ⟨G, 0, none⟩) n gc)
          go_wp2
          refine bodyPost_ret (v := .agg #[.slice (some ⟨G, 0, none⟩) n gc]) (by simp [results, Tryz.results15, go_sem, *]) rfl ?_
          rw [Hres2.out]
          exact HWx.out.ends hlt
        · have hk01 : ¬ 0 = k := fun h => hk00 h.symm
          have hk1 : ¬ k * 4 = 1 := by omega
          have hk2 : ¬ k * 4 = 2 := by omega
          have hk3 : ¬ k * 4 = 3 := by omega
          have hk4 : ¬ 1 = k * 4 := by omega
          have hk5 : ¬ 2 = k * 4 := by omega
          have hk6 : ¬ 3 = k * 4 := by omega
          go_upto_region 15 with fail
          go_region
          obtain ⟨wx, hwx⟩ : ∃ wx : World, wx = ((((((((w7.setCell ⟨G, 0, none⟩ (.int .i64 q.l)).setCell ⟨G, 1, none⟩ (.int .i64 q.b)).setCell ⟨G, 2, none⟩ (.int .i64 q.r)).setCell ⟨G, 3, none⟩ (.int .i64 q.t)).setCell ⟨G, k * 4, none⟩ (.int .i64 p.l)).setCell ⟨G, k * 4 + 1, none⟩ (.int .i64 p.b)).setCell ⟨G, k * 4 + 2, none⟩ (.int .i64 p.r)).setCell ⟨G, k * 4 + 3, none⟩ (.int .i64 p.t)).drew := ⟨_, rfl⟩
          rw [← hwx]
          have HWx : Hid (BrkW w wx g (.slice (some ⟨G, 0, none⟩) n gc) ((ra.set 0 q).set k p) r1.tail.tail.tail) := Lib.hid (by
            rw [hwx]
            refine World.drew_brk (HW7.out.turn hlt hGb (only4 (only4 (World.grownBy.refl _ _))) ?_ (by rw [List.length_set, List.length_set, Hn.out]))
            exact own_rectB (own_rect0 Hown7.out h0r q) k (by rw [List.length_set]; exact hkr) p)
          clear hwx
          have cE := HWx.out.c
          have fE := HWx.out.f
          have sE := HWx.out.same (.slice (some ⟨G, 0, none⟩) n gc)
          go_wp2
          refine bodyPost_ret (v := .agg #[.slice (some ⟨G, 0, none⟩) n gc]) (by simp [results, Tryz.results15, go_sem, *]) rfl ?_
          rw [Hres2.out]
          exact HWx.out.ends hlt
      · skip
        have Hres2 : Hid (res = (ra.set k ⟨q.l, q.b, q.r, q.b⟩, r1.tail.tail.tail)) := Lib.hid (by rw [Hres.out]; simp [brkP, hq])
        have Hset := Lib.hid (rCells_setT ra k hkr (q.b))
        rw [Hqq.out] at Hset
        clear HC3
        go_upto_region 16 with fail
        obtain ⟨wx, hwx⟩ : ∃ wx : World, wx = w7.setCell ⟨G, k * 4 + 3, none⟩ (.int .i64 (q.b)) := ⟨_, rfl⟩
        rw [← hwx]
        have HWx : Hid (BrkW w wx g (.slice (some ⟨G, 0, none⟩) n gc) (ra.set k ⟨q.l, q.b, q.r, q.b⟩) r1.tail.tail.tail) := Lib.hid (by
          rw [hwx]
          refine HW7.out.turn hlt hGb (only_setCell (World.grownBy.refl _ _) (.inl rfl) _) ?_ (by rw [List.length_set, Hn.out])
          rw [Hset.out]
          exact own_setN Hown7.out _ _)
        clear hwx
        have cE := HWx.out.c
        have fE := HWx.out.f
        have sE := HWx.out.same (.slice (some ⟨G, 0, none⟩) n gc)
        go_wp2
        refine bodyPost_ret (v := .agg #[.slice (some ⟨G, 0, none⟩) n gc]) (by simp [results, Tryz.results15, go_sem, *]) rfl ?_
        rw [Hres2.out]
        exact HWx.out.ends hlt
end Go.Proofs.YtpcfhcdbibklcaaGreat

namespace Go.Proofs.YtpcfhcdbibklcaaGreat
open Go.RowKit Go.Shelf
set_option linter.unusedVariables false
set_option linter.unusedSimpArgs false

theorem own_takeN {w : World} {base : Nat} {e : TypeId} {n k c size : Nat} {A : Option Addr} {xs : List Value} (h : w.ownsRow base e size (.slice A n c) n xs) (hk : k ≤ n) : w.ownsRow base e size (.slice A k c) k (xs.take (k * size)) := by
  obtain ⟨h1, h2⟩ := h
  have hks : k * size ≤ n * size := Nat.mul_le_mul_right _ hk
  refine ⟨by rw [List.length_take]; omega, ?_⟩
  rcases h2 with ⟨h3, h4⟩ | ⟨g, cap, cur, h3, hb, hh, hnc, hcm, hs, ht⟩
  · injection h3 with e1 e2 e3
    subst e1 e3
    have : k = 0 := by omega
    subst this
    exact .inl ⟨rfl, rfl⟩
  · injection h3 with e1 e2 e3
    subst e1 e3
    refine .inr ⟨g, c, cur, rfl, hb, hh, by omega, hcm, hs, ?_⟩
    rw [← ht, List.take_take]
    congr 1
    omega
theorem pCells_take (l : List Pt) (k : Nat) : (pCells l).take (k * 2) = pCells (l.take k) := by
  rcases Nat.lt_or_ge l.length k with h | h
  · rw [List.take_of_length_le (by rw [pCells_len]; omega), List.take_of_length_le (by omega)]
  · have e2 : pCells l = pCells (l.take k) ++ pCells (l.drop k) := by rw [← pCells_app, List.take_append_drop]
    rw [e2, List.take_append_of_le_length (by rw [pCells_len, List.length_take]; omega), List.take_of_length_le (by rw [pCells_len, List.length_take]; omega)]
/-- What append leaves, and what it leaves alone. -/
theorem run_append_keep {P : Program} (w : World) (base : Nat) (t ty e : TypeId) (i : TypeInfo) (z : Value) (size bytes : Nat) (ht : P.underlying t = some (.slice e)) (hi : P.info? e = some i) (hz : i.zero = some z)
    (hsize : i.size = size) (hby : i.bytes = bytes) (hzs : z.cells.size = size) (hsz : 0 < size)
    (g n cap : Nat) (xs : List Value) (hown : w.ownsRow base e size (.slice (some ⟨g, 0, none⟩) n cap) n xs)
    (a : Addr) (m c : Nat) (news : List Value) (hl : news.length = m * size) (hnews : ∀ j u, news[j]? = some u → w.cell? (a.add j) = some u) (h1 : ∀ u ∈ news, u.oneCell' = true)
    (h63 : n + m ≤ maxLen) (hbytes : (n + m) * bytes ≤ 140737488355328) (hbase : base ≤ w.heap.size) :
    ∃ v' w', (Builtin.append_ #[t, t] ty #[.slice (some ⟨g, 0, none⟩) n cap, .slice (some a) m c]).run P w = .ok v' w' ∧ w'.ownsRow base e size v' (n + m) (xs ++ news) ∧ w.grownBy w' (some g) ∧
      ∀ j u, xs[j]? = some u → w'.cell? ⟨g, j, none⟩ = some u := by
  obtain ⟨v', w', hrun, h2, h3, _, h5⟩ := run_append_own_at (P := P) w base t ty e i z size bytes ht hi hz hsize hby hzs hsz _ n xs hown a m c news hl hnews h1 h63 hbytes hbase
  refine ⟨v', w', hrun, h2, h3, fun j u hu => ?_⟩
  have hold := hown.cells (g := g) rfl
  rcases hown.2 with ⟨h4, _⟩ | ⟨g', cap', cur, h4, hbg, hg, hnc, hcm, hcs, htake⟩
  · cases h4
  · injection h4 with e1 e2 e3
    injection e1 with e1
    injection e1 with e1
    subst e1 e3
    subst hsize
    by_cases hroom : n + m ≤ cap
    · have hfit : n * i.size + news.length ≤ cur.size := by rw [hl, hcs, ← Nat.add_mul]; exact Nat.mul_le_mul_right _ hroom
      have hr := run_append_room (P := P) w t ty e i ht hi g n cap cur hg a m c news hl hnews h1 hroom hfit
      rw [hrun] at hr
      injection hr with hr1 hr2
      subst hr1
      have := h2.cells (g := g) rfl j u (by rw [List.getElem?_append_left (by rcases Nat.lt_or_ge j xs.length with h | h; exact h; rw [List.getElem?_eq_none h] at hu; cases hu)]; exact hu)
      rw [add_none, Nat.zero_add] at this
      exact this
    · have hr := run_append_grow (P := P) w t ty e i z ht hi hz ⟨g, 0, none⟩ n cap xs hown.1 hold a m c news hl hnews (by omega) (by simp only [maxLen] at h63; omega) (by subst hby; exact growslice_fits (by omega) hbytes)
      rw [hrun] at hr
      injection hr with hr1 hr2
      have hc := hold j u hu
      rw [hr2]
      refine (World.cell?_alloc_some _ _ _ ?_).trans ?_
      · show (w.cell? ⟨g, j, none⟩).isSome = true
        have : w.cell? ⟨g, j, none⟩ = some u := by rw [add_none, Nat.zero_add] at hc; exact hc
        rw [this]; rfl
      · have : w.cell? ⟨g, j, none⟩ = some u := by rw [add_none, Nat.zero_add] at hc; exact hc
        exact this
/-- A ring on a small sheet. -/
def In8 (l : List Pt) : Prop := ∀ p ∈ l, 0 ≤ p.1 ∧ p.1 ≤ 7 ∧ 0 ≤ p.2 ∧ p.2 ≤ 7
structure Drw (w W : World) (g : Nat) (v : Value) (l : List Pt) (r : List Int) : Prop where
  own : W.ownsRow w.heap.size 43 2 v l.length (pCells l)
  tape : TapeAt W g r
  gr : w.grownBy W (some g)
  lt : g < w.heap.size
section
variable {w W W' : World} {g : Nat} {v v' : Value} {l l' : List Pt} {r r' : List Int}
theorem Drw.step (h : Drw w W g v l r) (hn : W.grownBy W' (some g)) (ht : TapeAt W' g r') : Drw w W' g v l r' :=
  ⟨ownsRow_only h.own hn h.lt, ht, only_trans h.gr hn, h.lt⟩
theorem Drw.app {row : Option Nat} {n : Nat} {xs : List Value} (h : Drw w W g v l r) (o : Obj) (hr : ∀ k, row = some k → w.heap.size ≤ k) (hg : (W.alloc o).grownBy W' row) (ho : W'.ownsRow w.heap.size 43 2 v' n xs) (hn : n = l'.length) (hx : xs = pCells l') : Drw w W' g v' l' r := by
  subst hn hx
  have hlt := h.lt
  exact ⟨ho, (h.tape.alloc o).grown hg (fun k hk => by have := hr k hk; omega), only_grown (only_alloc h.gr o) hg (fun k hk => by have := hr k hk; omega), hlt⟩
end
theorem In8.snoc {l : List Pt} {x y : Int} (h : In8 l) (hx : 0 ≤ x ∧ x ≤ 7) (hy : 0 ≤ y ∧ y ≤ 7) : In8 (l ++ [(x, y)]) := by
  intro p hp
  rcases List.mem_append.1 hp with hp | hp
  · exact h p hp
  · rw [List.mem_singleton.1 hp]; exact ⟨hx.1, hx.2, hy.1, hy.2⟩
def RingTPost (w : World) (g : Nat) (e : Ending) (w' : World) : Prop := ∃ v l r, e = .returned v ∧ Drw w w' g v l r ∧ In8 l ∧ l.length ≤ 11

set_option maxHeartbeats 0 in
set_option maxRecDepth 100000 in
theorem ringT_any (g : Nat) (r : List Int) (w : World) (ht : TapeAt w g r) : Calls Tryz.prog 16 #[.pointer (some ⟨g, 0, none⟩)] w (RingTPost w g) := by
  obtain ⟨i0, hi, hz0, hz1, hz2⟩ := info_parts Tryz.infoPoint
  have hlt := ht.lt
  have HNx : Hid (∀ (m : Int) r W, 1 ≤ m ∧ m ≤ 100 → TapeAt W g r → Calls Tryz.prog 27 #[.pointer (some ⟨g, 0, none⟩), .int .i64 m] W fun e w' => ∃ x : Int, e = .returned (.int .i64 x) ∧ (0 ≤ x ∧ x < m) ∧ TapeAt w' g r.tail ∧ W.grownBy w' (some g)) := Lib.hid (fun m r W hm h => (next_any g r m W h (by omega)).mono (fun e w' hp => ⟨nx r m, hp.1, nx_bd r m hm.1, hp.2.1, hp.2.2⟩))
  have HOne : Hid (∀ r W, TapeAt W g r → Calls Tryz.prog 45 #[.pointer (some ⟨g, 0, none⟩), .int .i64 2] W fun e w' => ∃ x : Bool, e = .returned (.bool x) ∧ TapeAt w' g r.tail ∧ W.grownBy w' (some g)) := Lib.hid (fun r W h => (one_any g r 2 W h (by omega) (by omega)).mono (fun e w' hp => ⟨_, hp.1, hp.2.1, hp.2.2⟩))
  have HD : Hid (Drw w w g (.slice none 0 0) [] r) := Lib.hid ⟨World.ownsRow_nil _ _ _ _, ht, World.grownBy.refl _ _, hlt⟩
  clear ht
  go_enter Tryz.func16, Tryz.ntmps16
  go_upto_region 3 with (first
    | (go_at_call 27
       refine (HNx.out 8 _ _ ⟨by omega, by omega⟩ HD.out.tape).mono ?_
       rintro e w1 ⟨x, rfl, hx, ht1, hg1⟩
       have HD := Lib.hid (HD.out.step hg1 ht1)
       clear ht1 hg1)
    | fail)
  go_upto_region 4 with (first
    | (go_at_call 27
       refine (HNx.out 5 _ _ ⟨by omega, by omega⟩ HD.out.tape).mono ?_
       rintro e w2 ⟨n, rfl, hn, ht1, hg1⟩
       have HD := Lib.hid (HD.out.step hg1 ht1)
       clear ht1 hg1)
    | fail)
  go_wp2
  go_loopw [3, 4, 5, 6] (fun ov xv yv nv wr => ∃ (x y n : Int) (l : List Pt) (r : List Int), xv = .int .i64 x ∧ yv = .int .i64 y ∧ nv = .int .i64 n ∧ (0 ≤ x ∧ x ≤ 7) ∧ (0 ≤ y ∧ y ≤ 7) ∧ (-1 ≤ n ∧ n ≤ 4) ∧ (l.length : Int) + 2 * n ≤ 8 ∧ In8 l ∧ Hid (Drw w wr g ov l r)) (fun _ _ _ nv _ => (intOf nv + 1).toNat)
  case atStart => exact ⟨_, _, _, [], _, rfl, rfl, rfl, by omega, by omega, by omega, by simp; omega, by simp [In8], HD⟩
  case round =>
    obtain ⟨x, y, n, l, r1, rfl, rfl, rfl, hx, hy, hn, hlen, h8, HD⟩ := hrel
    have H8 := Lib.hid h8
    clear h8
    have hsz := HD.out.gr.size
    by_cases hn0 : 0 ≤ n
    · have hw1 : IntKind.i64.wrap (n - 1) = n - 1 := IntWalk.i64_in _ (by omega)
      go_upto_region 7 with (first
        | (at_builtin
           go_loud (refine wpList_append_any _ rfl (.tmp 17) (.tmp 21) _ rfl w.heap.size 43 i0 _ 2 16 Tryz.underlying40 hi hz0 hz1 hz2 rfl (by omega) _ l.length (pCells l) rfl (HD.out.own.alloc _) _ _ 1 1 [.int .i64 x, .int .i64 y] rfl ⟨rfl, fun _ => ⟨_, rfl, Nat.lt_succ_self _, fun j u hu => (by exact news_any _ _ _ j u hu)⟩⟩ (by simp [Value.oneCell']) (by simp only [maxLen]; omega) (by omega) (by simp; omega) ?_)
           intro v5 w5 hown5 hg5 hat5
           have HD := Lib.hid (HD.out.app (l' := l ++ [(x, y)]) _ (own_base HD.out.own) hg5 hown5 (by simp) (by rw [pCells_app]; rfl))
           clear hown5 hg5 hat5)
        | fail)
      have hsz := HD.out.gr.size
      have hl1 : (l ++ [(x, y)]).length = l.length + 1 := by simp
      go_upto_region 8 with (first
        | (go_at_call 27
           refine (HNx.out 8 _ _ ⟨by omega, by omega⟩ HD.out.tape).mono ?_
           rintro e w6 ⟨x1, rfl, hx1, ht1, hg1⟩
           have HD := Lib.hid (HD.out.step hg1 ht1)
           have hsz := HD.out.gr.size
           clear ht1 hg1)
        | fail)
      go_upto_region 9 with (
          (at_builtin
           go_loud (refine wpList_append_any _ rfl (.tmp 25) (.tmp 29) _ rfl w.heap.size 43 i0 _ 2 16 Tryz.underlying40 hi hz0 hz1 hz2 rfl (by omega) _ (l ++ [(x, y)]).length (pCells (l ++ [(x, y)])) rfl (HD.out.own.alloc _) _ _ 1 1 [.int .i64 x1, .int .i64 y] rfl ⟨rfl, fun _ => ⟨_, rfl, Nat.lt_succ_self _, fun j u hu => (by exact news_any _ _ _ j u hu)⟩⟩ (by simp [Value.oneCell']) (by simp only [maxLen]; omega) (by omega) (by simp; omega) ?_)
           intro v7 w7 hown7 hg7 hat7
           have HD := Lib.hid (HD.out.app (l' := (l ++ [(x, y)]) ++ [(x1, y)]) _ (own_base HD.out.own) hg7 hown7 (by simp) (pCells_app (l ++ [(x, y)]) [(x1, y)]).symm)
           clear hown7 hg7 hat7))
      go_upto_region 5 with (first
        | (go_at_call 27
           refine (HNx.out 8 _ _ ⟨by omega, by omega⟩ HD.out.tape).mono ?_
           rintro e w8 ⟨y1, rfl, hy1, ht1, hg1⟩
           have HD := Lib.hid (HD.out.step hg1 ht1)
           clear ht1 hg1)
        | fail)
      go_wp2
      go_roundw
      case rel => exact ⟨_, _, n - 1, (l ++ [(x, y)]) ++ [(x1, y)], _, rfl, rfl, rfl, by omega, by omega, by omega, by simp; omega, (H8.out.snoc hx hy).snoc (by omega) hy, HD⟩
      case measure => simp [intOf]; omega
    · obtain rfl : n = -1 := by omega
      obtain ⟨A, c, rfl, hlie, hnc, hcm⟩ := own_slice HD.out.own
      obtain ⟨N, hN⟩ : ∃ N, l.length = N := ⟨_, rfl⟩
      have HN := Lib.hid hN
      rw [hN] at hnc hlen HD ⊢
      clear hlie
      have hll : (N : Int) ≤ 10 := by omega
      clear hN
      by_cases h2 : (2 : Int) < (N : Int)
      · go_upto_region 11 with (first
          | (go_at_call 45
             refine (HOne.out _ _ HD.out.tape).mono ?_
             rintro e w2 ⟨b, rfl, ht1, hg1⟩
             have HD := Lib.hid (HD.out.step hg1 ht1)
             clear ht1 hg1
             rcases b with _ | _)
          | fail)
        · go_wp2
          refine bodyPost_ret (v := .slice A N c) (by simp [results, Tryz.results16, go_sem, *]) rfl ?_
          exact ⟨_, l, _, rfl, HD.out, H8.out, by have := HN.out; omega⟩
        · obtain ⟨k, hk⟩ : ∃ k, N = k + 2 := ⟨N - 2, by omega⟩
          obtain ⟨k1, hk1⟩ : ∃ k1, k1 = k + 1 := ⟨_, rfl⟩
          have hN1 : IntKind.i64.wrap ((N : Int) - 1) = (k1 : Int) := by rw [IntWalk.i64_in _ (by omega)]; omega
          have hN2 : IntKind.i64.wrap ((N : Int) - 2) = (k : Int) := by rw [IntWalk.i64_in _ (by omega)]; omega
          have hkl : k < l.length := by have := HN.out; omega
          have h0l : 0 < l.length := by omega
          have hown := HD.out.own
          rw [HN.out] at hown
          obtain ⟨G, rfl⟩ : ∃ G, A = some ⟨G, 0, none⟩ := by
            rcases hown.2 with ⟨_, h⟩ | ⟨G, _, _, h, _⟩
            · omega
            · injection h with h
              exact ⟨G, h⟩
          have hsz := HD.out.gr.size
          have hfit := (SlPt.mk HN.out hnc hcm (Lies.of_own hown) : SlPt w2 _ N c l)
          obtain ⟨_, _, e1, hGb, p0, _⟩ := hfit.at k hkl
          obtain ⟨_, _, e2, _, q0, _⟩ := hfit.at 0 h0l
          injection e1 with e1
          injection e1 with e1 e1'
          subst e1 e1'
          injection e2 with e2
          injection e2 with e2 e2'
          subst e2 e2'
          simp only [Nat.zero_add, Nat.zero_mul] at p0 q0
          have hat := pCells_at l k hkl
          have hat0 := pCells_at l 0 h0l
          have hpk := H8.out _ (List.getElem_mem hkl)
          have hp0 := H8.out _ (List.getElem_mem h0l)
          generalize l[k] = pk at *
          generalize l[0] = pz at *
          obtain ⟨ax, ay⟩ := pk
          obtain ⟨bx, by'⟩ := pz
          dsimp only at *
          have hk1c : (k1 : Int) ≤ (c : Int) := by omega
          have hk10 : (0 : Int) ≤ (k1 : Int) := by omega
          have hk0 : (0 : Int) ≤ (k : Int) := by omega
          have hkN : (k : Int) < (N : Int) := by omega
          have h0N : (0 : Int) < (N : Int) := by omega
          have h0N' : 0 < N := by omega
          have Ht : Hid (w2.ownsRow w.heap.size 43 2 (.slice (some ⟨G, 0, none⟩) k1 c) k1 (pCells (l.take k1))) := Lib.hid (by rw [← pCells_take]; exact own_takeN hown (by omega))
          have HSb : Hid (∀ wy, Below w2.heap.size w2 wy → wy.cell? ⟨G, k * 2, none⟩ = some (.int .i64 ax) ∧ wy.cell? ⟨G, 0, none⟩ = some (.int .i64 bx)) := Lib.hid (fun wy hy => ⟨(hy.cell (p := ⟨G, k * 2, none⟩) hGb).trans p0, (hy.cell (p := ⟨G, 0, none⟩) hGb).trans q0⟩)
          have hk1s : k1 ≤ 9 := by omega
          have HK := Lib.hid hk
          have HK1 := Lib.hid hk1
          clear p0 q0 hown hfit hk hk1
          refine wp_region_noPanic ?_
          refine wp_region_held_drew (S := fun wy => wy.cell? ⟨G, k * 2, none⟩ = some (.int .i64 ax) ∧ wy.cell? ⟨G, 0, none⟩ = some (.int .i64 bx)) (by kernel_rfl) (HSb.out _ (by repeat' (first | with_reducible exact Below.refl _ _ | with_reducible refine below_drewN ?_ _ | with_reducible refine Below.drew ?_ | with_reducible refine Below.alloc ?_ ?_ _ | with_reducible refine Below.setCell ?_ ?_ _ | with_reducible refine Below.trans ?_ (Below.mono (by with_reducible assumption) ?_) | (simp; done) | (simp; omega) | omega))) (fun hHeld => ?_)
          refine wpAnyH_take (i := 0) (v := ?vva0) rfl (by kernel_rfl) (by kernel_rfl) (by kernel_rfl) (fun _ _ _ h => h) (Or.inl ⟨by rfl, ?hya0⟩) hHeld ?resta0; (case hya0 => (intro w hSw; (try dsimp only at hSw); go_simp; all_goals (with_reducible rfl))); simp only [Act.put, List.setIfInBounds_toArray, List.set_cons_zero, List.set_cons_succ]
          refine wpAnyH_take (i := 1) (v := ?vva1) rfl (by kernel_rfl) (by kernel_rfl) (by kernel_rfl) (fun _ _ _ h => h) (Or.inl ⟨by rfl, ?hya1⟩) hHeld ?resta1; (case hya1 => (intro w hSw; (try dsimp only at hSw); go_simp; all_goals (with_reducible rfl))); simp only [Act.put, List.setIfInBounds_toArray, List.set_cons_zero, List.set_cons_succ]
          refine wpAnyH_take (i := 2) (v := ?vva2) rfl (by kernel_rfl) (by kernel_rfl) (by kernel_rfl) (fun _ _ _ h => h) (Or.inl ⟨by rfl, ?hya2⟩) hHeld ?resta2; (case hya2 => (intro w hSw; (try dsimp only at hSw); go_simp; all_goals (with_reducible rfl))); simp only [Act.put, List.setIfInBounds_toArray, List.set_cons_zero, List.set_cons_succ]
          refine wpAnyH_take (i := 3) (v := ?vva3) rfl (by kernel_rfl) (by kernel_rfl) (by kernel_rfl) (fun _ _ _ h => h) (Or.inl ⟨by rfl, ?hya3⟩) hHeld ?resta3; (case hya3 => (intro w hSw; (try dsimp only at hSw); go_simp; all_goals (with_reducible rfl))); simp only [Act.put, List.setIfInBounds_toArray, List.set_cons_zero, List.set_cons_succ]
          refine wpAnyH_take (i := 4) (v := ?vva4) rfl (by kernel_rfl) (by kernel_rfl) (by kernel_rfl) (fun _ _ _ h => h) (Or.inl ⟨by rfl, ?hya4⟩) hHeld ?resta4; (case hya4 => (intro w hSw; (try dsimp only at hSw); go_simp; all_goals (with_reducible rfl))); simp only [Act.put, List.setIfInBounds_toArray, List.set_cons_zero, List.set_cons_succ]
          refine wpAnyH_take (i := 5) (v := ?vva5) rfl (by kernel_rfl) (by kernel_rfl) (by kernel_rfl) (fun _ _ _ h => h) (Or.inl ⟨by rfl, ?hya5⟩) hHeld ?resta5; (case hya5 => (intro w hSw; (try dsimp only at hSw); go_simp; all_goals (with_reducible rfl))); simp only [Act.put, List.setIfInBounds_toArray, List.set_cons_zero, List.set_cons_succ]
          refine wpAnyH_take (i := 6) (v := ?vva6) rfl (by kernel_rfl) (by kernel_rfl) (by kernel_rfl) (fun _ _ _ h => h) (Or.inl ⟨by rfl, ?hya6⟩) hHeld ?resta6; (case hya6 => (intro w hSw; (try dsimp only at hSw); go_simp; all_goals (with_reducible rfl))); simp only [Act.put, List.setIfInBounds_toArray, List.set_cons_zero, List.set_cons_succ]
          refine wpAnyH_take (i := 7) (v := ?vva7) rfl (by kernel_rfl) (by kernel_rfl) (by kernel_rfl) (fun _ _ _ h => h) (Or.inl ⟨by rfl, ?hya7⟩) hHeld ?resta7; (case hya7 => (intro w hSw; (try dsimp only at hSw); go_simp; all_goals (with_reducible rfl))); simp only [Act.put, List.setIfInBounds_toArray, List.set_cons_zero, List.set_cons_succ]
          refine wpAnyH_take (i := 8) (v := ?vva8) rfl (by kernel_rfl) (by kernel_rfl) (by kernel_rfl) (fun _ _ _ h => h) (Or.inl ⟨by rfl, ?hya8⟩) hHeld ?resta8; (case hya8 => (intro w hSw; (try dsimp only at hSw); go_simp; all_goals (with_reducible rfl))); simp only [Act.put, List.setIfInBounds_toArray, List.set_cons_zero, List.set_cons_succ]
          refine wpAnyH_take (i := 9) (v := ?vva9) rfl (by kernel_rfl) (by kernel_rfl) (by kernel_rfl) (fun _ _ _ h => h) (Or.inl ⟨by rfl, ?hya9⟩) hHeld ?resta9; (case hya9 => (intro w hSw; (try dsimp only at hSw); go_simp; all_goals (with_reducible rfl))); simp only [Act.put, List.setIfInBounds_toArray, List.set_cons_zero, List.set_cons_succ]
          refine wpAnyH_take (i := 10) (v := ?vva10) rfl (by kernel_rfl) (by kernel_rfl) (by kernel_rfl) (fun _ _ _ h => h) (Or.inl ⟨by rfl, ?hya10⟩) hHeld ?resta10; (case hya10 => (intro w hSw; (try dsimp only at hSw); go_simp; all_goals (with_reducible rfl))); simp only [Act.put, List.setIfInBounds_toArray, List.set_cons_zero, List.set_cons_succ]
          refine wpAnyH_take (i := 11) (v := ?vva11) rfl (by kernel_rfl) (by kernel_rfl) (by kernel_rfl) (fun _ _ _ h => h) (Or.inl ⟨by rfl, ?hya11⟩) hHeld ?resta11; (case hya11 => (intro w hSw; (try dsimp only at hSw); go_simp; all_goals (with_reducible rfl))); simp only [Act.put, List.setIfInBounds_toArray, List.set_cons_zero, List.set_cons_succ]
          refine wpAnyH_take (i := 12) (v := ?vva12) rfl (by kernel_rfl) (by kernel_rfl) (by kernel_rfl) (fun _ _ _ h => h) (Or.inl ⟨by rfl, ?hya12⟩) hHeld ?resta12; (case hya12 => (intro w hSw; (try dsimp only at hSw); go_simp; all_goals (with_reducible rfl))); simp only [Act.put, List.setIfInBounds_toArray, List.set_cons_zero, List.set_cons_succ]
          refine wpAnyH_take (i := 13) (v := ?vva13) rfl (by kernel_rfl) (by kernel_rfl) (by kernel_rfl) (fun _ _ _ h => h) (Or.inl ⟨by rfl, ?hya13⟩) hHeld ?resta13; (case hya13 => (intro w hSw; (try dsimp only at hSw); go_simp; all_goals (with_reducible rfl))); simp only [Act.put, List.setIfInBounds_toArray, List.set_cons_zero, List.set_cons_succ]
          refine wpAnyH_take (i := 14) (v := ?vva14) rfl (by kernel_rfl) (by kernel_rfl) (by kernel_rfl) (fun _ _ _ h => h) (Or.inl ⟨by rfl, ?hya14⟩) hHeld ?resta14; (case hya14 => (intro w hSw; (try dsimp only at hSw); go_simp; all_goals (with_reducible rfl))); simp only [Act.put, List.setIfInBounds_toArray, List.set_cons_zero, List.set_cons_succ]
          refine wpAnyH_take (i := 15) (v := ?vva15) rfl (by kernel_rfl) (by kernel_rfl) (by kernel_rfl) (fun _ _ _ h => h) (Or.inl ⟨by rfl, ?hya15⟩) hHeld ?resta15; (case hya15 => (intro w hSw; (try dsimp only at hSw); go_simp; all_goals (with_reducible rfl))); simp only [Act.put, List.setIfInBounds_toArray, List.set_cons_zero, List.set_cons_succ]
          refine wpAnyH_take (i := 16) (v := ?vva16) rfl (by kernel_rfl) (by kernel_rfl) (by kernel_rfl) (fun _ _ _ h => h) (Or.inl ⟨by rfl, ?hya16⟩) hHeld ?resta16; (case hya16 => (intro w hSw; (try dsimp only at hSw); go_simp; all_goals (with_reducible rfl))); simp only [Act.put, List.setIfInBounds_toArray, List.set_cons_zero, List.set_cons_succ]
          refine wpAnyH_take (i := 17) (v := ?vva17) rfl (by kernel_rfl) (by kernel_rfl) (by kernel_rfl) (fun _ _ _ h => h) (Or.inl ⟨by rfl, ?hya17⟩) hHeld ?resta17; (case hya17 => (intro w hSw; (try dsimp only at hSw); go_simp; all_goals (with_reducible rfl))); simp only [Act.put, List.setIfInBounds_toArray, List.set_cons_zero, List.set_cons_succ]
          refine wpAnyH_take (i := 18) (v := ?vva18) rfl (by kernel_rfl) (by kernel_rfl) (by kernel_rfl) (fun _ _ _ h => h) (Or.inl ⟨by rfl, ?hya18⟩) hHeld ?resta18; (case hya18 => (intro w hSw; (try dsimp only at hSw); go_simp; all_goals (with_reducible rfl))); simp only [Act.put, List.setIfInBounds_toArray, List.set_cons_zero, List.set_cons_succ]
          refine wpAnyH_take (i := 19) (v := ?vva19) rfl (by kernel_rfl) (by kernel_rfl) (by kernel_rfl) (fun _ _ _ h => h) (Or.inl ⟨by rfl, ?hya19⟩) hHeld ?resta19; (case hya19 => (intro w hSw; (try dsimp only at hSw); go_simp; all_goals (with_reducible rfl))); simp only [Act.put, List.setIfInBounds_toArray, List.set_cons_zero, List.set_cons_succ]
          refine wpAnyH_ready (rs := [20]) (by kernel_rfl) (by simp) ?_; refine AllReadyH.cons rfl (fun K hK => ?_) AllReadyH.nil
          go_simp
          obtain ⟨w3, hw3⟩ : ∃ w3 : World, w3 = (w2.alloc (.cells #[.int .i64 ax, .int .i64 y, .int .i64 bx, .int .i64 y] 43)).drew := ⟨_, rfl⟩
          rw [← hw3]
          have hHeld3 : w3.cell? ⟨G, k * 2, none⟩ = some (.int .i64 ax) ∧ w3.cell? ⟨G, 0, none⟩ = some (.int .i64 bx) := by rw [hw3]; exact HSb.out _ (by repeat' (first | with_reducible exact Below.refl _ _ | with_reducible refine below_drewN ?_ _ | with_reducible refine Below.drew ?_ | with_reducible refine Below.alloc ?_ ?_ _ | with_reducible refine Below.setCell ?_ ?_ _ | with_reducible refine Below.trans ?_ (Below.mono (by with_reducible assumption) ?_) | (simp; done) | (simp; omega) | omega))
          refine hK.out _ _ hHeld3 (fun hHeld => ?_)
          clear hK K
          (try simp only [Act.put, List.setIfInBounds_toArray, List.set_cons_zero, List.set_cons_succ])
          obtain ⟨v', w4, hrun, hown4, hg4, hkeep⟩ := run_append_keep (P := Tryz.prog) w3 w.heap.size 40 40 43 i0 _ 2 16 Tryz.underlying40 hi hz0 hz1 hz2 rfl (by omega) G k1 c _ (by rw [hw3]; exact (Ht.out.alloc _).drew) ⟨w2.heap.size, 0, none⟩ 2 2 [.int .i64 ax, .int .i64 y, .int .i64 bx, .int .i64 y] rfl (fun j u hu => by rw [hw3]; exact news_any w2 _ _ j u hu) (by simp [Value.oneCell']) (by simp only [maxLen]; omega) (by omega) (by rw [hw3]; simp; omega)
          have hHeld4 : w4.cell? ⟨G, k * 2, none⟩ = some (.int .i64 ax) ∧ w4.cell? ⟨G, 0, none⟩ = some (.int .i64 bx) := by
            have e := HK1.out
            refine ⟨hkeep _ _ ?_, hkeep _ _ ?_⟩
            · rw [← pCells_take, List.getElem?_take_of_lt (by omega)]; exact hat.1
            · rw [← pCells_take, List.getElem?_take_of_lt (by omega)]; simpa using hat0.1
          have hD4 : Drw w w4 g v' (l.take k1 ++ [(ax, y), (bx, y)]) r1.tail := by
            rw [hw3] at hg4
            exact Drw.app (v := .slice (some ⟨G, 0, none⟩) k1 c) (l := l.take k1) (W := w2) ⟨by rw [List.length_take, Nat.min_eq_left (by have := HK1.out; have := HK.out; have := HN.out; omega)]; exact Ht.out, HD.out.tape, HD.out.gr, hlt⟩ _ (fun q hq => by have hb := own_base Ht.out q (by rw [← hq]; rfl); exact hb) ⟨hg4.os, hg4.tape, hg4.output, hg4.size, hg4.block⟩ hown4 (by rw [List.length_append, List.length_take, Nat.min_eq_left (by have := HK1.out; have := HK.out; have := HN.out; omega)]; rfl) (by rw [pCells_app]; rfl)
          refine wpAnyH_ready (rs := [21]) (by kernel_rfl) (by simp) ?_; refine AllReadyH.cons rfl (fun K hK => ?_) AllReadyH.nil
          refine step_append_run rfl (.tmp 44) (.tmp 60) 40 rfl _ _ _ _ rfl rfl hrun ?_
          refine hK.out _ _ hHeld4 (fun hHeld => ?_)
          clear hK K
          (try simp only [Act.put, List.setIfInBounds_toArray, List.set_cons_zero, List.set_cons_succ])
          refine wpAnyH_take (i := 22) (v := ?vvb22) rfl (by kernel_rfl) (by kernel_rfl) (by kernel_rfl) (fun _ _ _ h => h) (Or.inl ⟨by rfl, ?hyb22⟩) hHeld ?restb22; (case hyb22 => (intro w hSw; (try dsimp only at hSw); go_simp; all_goals (with_reducible rfl))); simp only [Act.put, List.setIfInBounds_toArray, List.set_cons_zero, List.set_cons_succ]
          refine wpAnyH_done (by kernel_rfl) ?_ _
          refine NoPanic.normal ?_
          go_wp2
          refine bodyPost_ret (v := v') (by simp [results, Tryz.results16, go_sem, *]) rfl ?_
          exact ⟨_, _, _, rfl, hD4, fun p hp => by
            rcases List.mem_append.1 hp with hp | hp
            · exact H8.out p (List.mem_of_mem_take hp)
            · simp only [List.mem_cons, List.not_mem_nil, or_false] at hp
              rcases hp with rfl | rfl
              · exact ⟨hpk.1, hpk.2.1, hy.1, hy.2⟩
              · exact ⟨hp0.1, hp0.2.1, hy.1, hy.2⟩, by
            have e1 := HK.out
            have e2 := HK1.out
            rw [List.length_append, List.length_take]
            simp
            omega⟩
      · go_wp2_with (first
          | (go_at_call 45
             refine (HOne.out _ _ HD.out.tape).mono ?_
             rintro e w2 ⟨b, rfl, ht1, hg1⟩
             have HD := Lib.hid (HD.out.step hg1 ht1)
             clear ht1 hg1
             rcases b with _ | _)
          | fail)
        all_goals refine bodyPost_ret (v := .slice A N c) (by simp [results, Tryz.results16, go_sem, *]) rfl ?_
        all_goals exact ⟨_, l, _, rfl, HD.out, H8.out, by have := HN.out; omega⟩
end Go.Proofs.YtpcfhcdbibklcaaGreat

namespace Go.Proofs.YtpcfhcdbibklcaaGreat
open Go.RowKit Go.Shelf
set_option linter.unusedVariables false
set_option linter.unusedSimpArgs false

theorem sumP_rev (φ : Pt → Pt → Int) : ∀ (t : List Pt) (a z : Pt), sumP φ a t z = sumP (fun p q => φ q p) z t.reverse a
  | [], a, z => rfl
  | b :: l, a, z => by
    rw [List.reverse_cons, sumP_app (fun p q => φ q p) b a [] l.reverse z]
    show φ a b + sumP φ b l z = sumP (fun p q => φ q p) z l.reverse b + φ a b
    rw [sumP_rev φ l b z]
    omega
theorem cycP_rev (φ : Pt → Pt → Int) (r : List Pt) : cycP φ r.reverse = cycP (fun p q => φ q p) r := by
  cases r with
  | nil => rfl
  | cons a t =>
    rw [List.reverse_cons, cycP_rot φ [a] t.reverse]
    show sumP φ a t.reverse a = sumP (fun p q => φ q p) a t a
    rw [sumP_rev (fun p q => φ q p) t a a]
theorem sumP_neg (φ : Pt → Pt → Int) : ∀ (t : List Pt) (a z : Pt), sumP (fun p q => - φ p q) a t z = - sumP φ a t z
  | [], a, z => rfl
  | b :: l, a, z => by
    show - φ a b + sumP (fun p q => - φ p q) b l z = - (φ a b + sumP φ b l z)
    rw [sumP_neg φ l b z]
    omega
theorem cycP_neg (φ : Pt → Pt → Int) (r : List Pt) : cycP (fun p q => - φ p q) r = - cycP φ r := by
  cases r with
  | nil => rfl
  | cons a t => exact sumP_neg φ t a a
theorem phC_rev (X Y : Int) (r : List Pt) : cycP (phC X Y) r.reverse = cycP (phC X Y) r := by
  rw [cycP_rev]
  congr 1
  funext p q
  unfold phC i1
  have e : (q.1 = p.1 ∧ q.1 ≤ X ∧ min q.2 p.2 ≤ Y ∧ Y < max q.2 p.2) ↔ (p.1 = q.1 ∧ p.1 ≤ X ∧ min p.2 q.2 ≤ Y ∧ Y < max p.2 q.2) := by
    constructor <;> (intro h; omega)
  simp only [e]
theorem phS_rev (r : List Pt) : cycP phS r.reverse = - cycP phS r := by
  rw [cycP_rev, ← cycP_neg]
  congr 1
  funext p q
  unfold phS
  rw [Int.mul_comm q.1 p.2, Int.mul_comm q.2 p.1]
  omega
theorem at0_congr (r : List Pt) {a b : Nat} (h : a % r.length = b % r.length) : at0 r a = at0 r b := by
  unfold at0 atC
  rw [h]
theorem at0_rev {r : List Pt} (h : 0 < r.length) (i k : Nat) (hk : (i + k + 1) % r.length = 0) : at0 r.reverse i = at0 r k := by
  have h1 := Nat.mod_lt i h
  have h2 := Nat.mod_lt k h
  have h3 : (i % r.length + k % r.length + 1) % r.length = 0 := by
    rw [← hk, Nat.add_mod (i % r.length + k % r.length) 1, ← Nat.add_mod i k, ← Nat.add_mod]
  have h4 : i % r.length + k % r.length + 1 = r.length := by
    obtain ⟨c, hc⟩ := Nat.dvd_of_mod_eq_zero h3
    have : c = 1 := by
      rcases c with _ | _ | c
      · simp at hc
      · rfl
      · have : r.length * (c + 2) = r.length * c + r.length + r.length := by rw [Nat.mul_add]; omega
        have h5 : r.length * (c + 1 + 1) = r.length * c + r.length + r.length := this
        omega
    rw [this] at hc
    omega
  unfold at0 atC
  rw [List.length_reverse, List.getD_eq_getElem?_getD, List.getD_eq_getElem?_getD, List.getElem?_reverse h1, show r.length - 1 - i % r.length = k % r.length by omega]
/-- All turns of a ring are right ones. -/
def Gd (r : List Pt) : Prop := ∀ i, rightP (at0 r i) (at0 r (i + 1)) = true ∧ levP (at0 r i) (at0 r (i + 1)) ≠ levP (at0 r (i + 1)) (at0 r (i + 2))
theorem fine_gd {r : List Pt} (h : 0 < r.length) : (List.range r.length).all (fineAt r) = true ↔ Gd r := by
  have hper : ∀ i, fineAt r i = fineAt r (i % r.length) := fun i => by
    have e0 : at0 r (i % r.length) = at0 r i := at0_mod r i
    have e1 : at0 r (i % r.length + 1) = at0 r (i + 1) := at0_congr r (by rw [Nat.mod_add_mod])
    have e2 : at0 r (i % r.length + r.length - 1) = at0 r (i + r.length - 1) := by
      rw [Nat.add_sub_assoc h, Nat.add_sub_assoc h]
      exact at0_congr r (by rw [Nat.mod_add_mod])
    have e3 : at0 r (i % r.length + r.length) = at0 r (i + r.length) := at0_congr r (by rw [Nat.mod_add_mod])
    unfold fineAt
    rw [e0, e1, e2, e3]
  rw [List.all_eq_true]
  constructor
  · intro ha i
    have hf : ∀ j, fineAt r j = true := fun j => by rw [hper]; exact ha _ (List.mem_range.2 (Nat.mod_lt j h))
    have h1 := hf i
    have h2 := hf (i + 1)
    unfold fineAt at h1 h2
    rw [Bool.and_eq_true] at h1 h2
    have e1 : at0 r (i + 1 + r.length - 1) = at0 r i := by rw [show i + 1 + r.length - 1 = i + r.length by omega]; exact at0_add r i
    have e2 : at0 r (i + 1 + r.length) = at0 r (i + 1) := at0_add r (i + 1)
    rw [e1, e2] at h2
    refine ⟨h1.1, fun e => ?_⟩
    have := h2.2
    rw [bne_iff_ne] at this
    exact this e.symm
  · intro hg i hi
    have e1 : at0 r (i + r.length - 1 + 1) = at0 r (i + r.length) := by rw [Nat.sub_add_cancel (by omega)]
    have e2 : at0 r (i + r.length - 1 + 2) = at0 r (i + 1) := by rw [show i + r.length - 1 + 2 = i + 1 + r.length by omega]; exact at0_add r (i + 1)
    have h1 := hg i
    have h2 := hg (i + r.length - 1)
    rw [e1, e2, at0_add] at h2
    unfold fineAt
    rw [Bool.and_eq_true, bne_iff_ne, at0_add]
    exact ⟨h1.1, fun e => h2.2 e.symm⟩
theorem rightP_comm (a b : Pt) : rightP a b = rightP b a := by
  unfold rightP
  rw [show decide (a.1 = b.1) = decide (b.1 = a.1) from decide_eq_decide.2 eq_comm, show decide (a.2 = b.2) = decide (b.2 = a.2) from decide_eq_decide.2 eq_comm]
theorem levP_comm (a b : Pt) : levP a b = levP b a := by
  unfold levP
  exact decide_eq_decide.2 eq_comm
theorem gd_rev {r : List Pt} (h : 0 < r.length) (hg : Gd r) : Gd r.reverse := by
  intro i
  obtain ⟨J, hJ⟩ : ∃ J, J + (i + 3) = r.length * (i + 3) := ⟨r.length * (i + 3) - (i + 3), Nat.sub_add_cancel (Nat.le_mul_of_pos_left _ h)⟩
  have e0 := at0_rev h i (J + 2) (by rw [show i + (J + 2) + 1 = r.length * (i + 3) by omega]; exact Nat.mul_mod_right _ _)
  have e1 := at0_rev h (i + 1) (J + 1) (by rw [show i + 1 + (J + 1) + 1 = r.length * (i + 3) by omega]; exact Nat.mul_mod_right _ _)
  have e2 := at0_rev h (i + 2) J (by rw [show i + 2 + J + 1 = r.length * (i + 3) by omega]; exact Nat.mul_mod_right _ _)
  rw [e0, e1, e2]
  have h0 := hg J
  have h1 := hg (J + 1)
  refine ⟨by rw [rightP_comm]; exact h1.1, fun e => h0.2 ?_⟩
  rw [levP_comm (at0 r J) (at0 r (J + 1)), levP_comm (at0 r (J + 1)) (at0 r (J + 2))]
  exact e.symm
theorem ringP_rev (r : List Pt) : ringP r.reverse = ringP r := by
  unfold ringP
  rw [List.length_reverse, List.all_reverse]
  by_cases h4 : r.length < 4
  · rw [if_pos h4, if_pos h4]
  · rw [if_neg h4, if_neg h4]
    have h0 : 0 < r.length := by omega
    have h0' : 0 < r.reverse.length := by rw [List.length_reverse]; exact h0
    have e : (List.range r.length).all (fineAt r.reverse) = (List.range r.length).all (fineAt r) := by
      rw [Bool.eq_iff_iff]
      have k1 := fine_gd h0
      have k2 := fine_gd h0'
      rw [List.length_reverse] at k2
      rw [k1, k2]
      constructor
      · intro hg
        have := gd_rev h0' hg
        rwa [List.reverse_reverse] at this
      · exact gd_rev h0
    rw [e]
theorem pairs_half : ∀ (xs : List Int), 2 * (pairsF xs).length ≤ xs.length
  | [] => by simp [pairsF]
  | [x] => by simp [pairsF]
  | x :: y :: t => by
    have := pairs_half t
    rw [pairsF]
    split <;> simp <;> omega
theorem cross_half (xs : List Int) : 2 * (crossP xs).length ≤ xs.length := by
  have h1 := sweeps_len (pairsF xs) []
  have h2 := pairs_half xs
  unfold crossP
  simp at h1
  omega
theorem fill_small (ws : List Wl) (h : ws.length ≤ 11) : (fillR ws).length ≤ 105 := by
  have hrow : ∀ y, (crossP (srt (xsAt ws y))).length ≤ 5 := fun y => by
    have h1 := cross_half (srt (xsAt ws y))
    have h2 : (srt (xsAt ws y)).length = (xsAt ws y).length := (srt_perm _).length_eq
    have h3 : (xsAt ws y).length ≤ ws.length := by unfold xsAt; rw [List.length_map]; exact List.length_filter_le _ _
    omega
  have h1 := flat_len 5 (foldC (fun y => some (crossP (srt (xsAt ws y)))) (asc (yWs ws)) []) (foldC_val (fun v : List (Sg Unit) => v.length ≤ 5) _ (fun x v hv => by injection hv with hv; subst hv; exact hrow x) _ _ (by simp))
  have h2 := foldC_len (fun y => some (crossP (srt (xsAt ws y)))) (asc (yWs ws)) []
  have h3 := (asc_all (yWs ws)).2.2
  have h4 := yWs_len ws
  refine Nat.le_trans h1 (Nat.le_trans (Nat.mul_le_mul_right 5 (show _ ≤ 21 by simp at h2; omega)) (by omega))
theorem canon_none {P : Int → Int → Bool} {R : List R4} (h : Canon P R) (hP : ∀ x y, P x y = false) : R = [] := by
  obtain ⟨row, bs, h1, h2, rfl⟩ := h
  have hr : ∀ y, row y = [] := fun y => segs_none (p := fun x => P x y) (fun x => hP x y) (h1 y)
  have e : (fun y => nz (row y)) = fun _ => none := funext fun y => by rw [hr y]; rfl
  rw [e] at h2
  have h3 : Segs (fun _ => (none : Option (List (Sg Unit)))) [] := ⟨0, fun _ _ => rfl, fun _ _ => rfl⟩
  rw [h2.uniq h3]
  rfl
theorem walls_one (r : List Pt) : wallsL [r] = wallsO r := by simp [wallsL]
theorem fillV_one {r : List Pt} (hr : r.length ≤ 11) : (ringP r = 0 → fillV [r] = (fillR (wallsL [r]), 0)) ∧ (fillV [r]).2 = ringP r := by
  have hw : (fillR (wallsL [r])).length ≤ 105 := fill_small _ (by rw [walls_one]; exact Nat.le_trans (wallsO_len r) hr)
  have h1 : ringP r = 0 → fillV [r] = (fillR (wallsL [r]), 0) := fun h => by
    unfold fillV
    rw [if_neg (by simp), if_neg (by simp [fErr, h]), if_neg (by omega)]
  refine ⟨h1, ?_⟩
  by_cases h : ringP r = 0
  · rw [h1 h, h]
  · have he : fErr [r] = ringP r := by rw [fErr, if_neg h]
    unfold fillV
    rw [if_neg (by simp), he, if_pos h]
theorem fillV_rev {r : List Pt} (hr : r.length ≤ 11) (h : ringP r = 0) : fillV [r.reverse] = fillV [r] := by
  have h' : ringP r.reverse = 0 := by rw [ringP_rev]; exact h
  rw [(fillV_one hr).1 h, (fillV_one (by rw [List.length_reverse]; exact hr)).1 h']
  have c1 : Canon (oddP [r]) (fillR (wallsL [r])) := fill_canon (by simpa using h)
  have c2 : Canon (oddP [r.reverse]) (fillR (wallsL [r.reverse])) := fill_canon (by simpa using h')
  have e : oddP [r.reverse] = oddP [r] := by
    funext X Y
    unfold oddP
    simp only [sumL_cons, sumL_nil, phC_rev]
  rw [e] at c2
  rw [c2.uniq c1]
theorem fillV_two {r : List Pt} (h : ringP r = 0) : fillV [r, r] = ([], 0) := by
  have c : Canon (oddP [r, r]) (fillR (wallsL [r, r])) := fill_canon (by simpa using h)
  have e := canon_none c (fun X Y => by
    unfold oddP
    simp only [sumL_cons, sumL_nil]
    rw [decide_eq_false_iff_not]
    omega)
  unfold fillV
  rw [if_neg (by simp), if_neg (by simp [fErr, h]), e]
  rfl
theorem signed_rev {r : List Pt} (h : ringP r = 0) : ∃ s : Int, signedV r = (s, 0) ∧ signedV r.reverse = (-s, 0) ∧ -1000000000000 ≤ s ∧ s ≤ 1000000000000 := by
  refine ⟨(cycP phS r).tdiv 2, by unfold signedV; rw [if_pos h], by unfold signedV; rw [if_pos (by rw [ringP_rev]; exact h), phS_rev, Int.neg_tdiv], ?_⟩
  obtain ⟨h1, h2, h3, _⟩ := ringP_zero h
  have hb := sumTo_bd h3 (by omega) r.length
  unfold sumTo at hb
  rw [cyc_range] at hb
  have g1 := Int.tmod_add_mul_tdiv (cycP phS r) 2
  have g2 := Int.lt_tmod_of_pos (cycP phS r) (show (0 : Int) < 2 by omega)
  have g3 := Int.tmod_lt_of_pos (cycP phS r) (show (0 : Int) < 2 by omega)
  omega
theorem signed_bad {r : List Pt} (h : ringP r ≠ 0) : signedV r = (0, ringP r) := by unfold signedV; rw [if_neg h]
end Go.Proofs.YtpcfhcdbibklcaaGreat

namespace Go.Proofs.YtpcfhcdbibklcaaGreat
open Go.RowKit Go.Shelf
set_option linter.unusedVariables false
set_option linter.unusedSimpArgs false

theorem one_ring {w : World} {A : Option Addr} {n c : Nat} {l : List Pt} (h : SlPt w A n c l) (t : TypeId) (B : Nat) (hB : B = w.heap.size) : SlRg (w.alloc (.cells #[.slice A n c] t)) (some ⟨B, 0, none⟩) 1 1 [(l, ⟨A, c⟩)] := by
  obtain rfl := h.len
  subst hB
  refine ⟨rfl, Nat.le_refl _, by unfold maxLen; omega, Lies.new _ _ _ 1 _ rfl _ rfl, fun x hx => ?_⟩
  simp only [List.mem_cons, List.not_mem_nil, or_false] at hx
  subst hx
  exact h.below (by repeat' (first | with_reducible exact Below.refl _ _ | with_reducible refine below_drewN ?_ _ | with_reducible refine Below.drew ?_ | with_reducible refine Below.alloc ?_ ?_ _ | with_reducible refine Below.setCell ?_ ?_ _ | with_reducible refine Below.trans ?_ (Below.mono (by with_reducible assumption) ?_) | (simp; done) | (simp; omega) | omega))
theorem twice_ring {w : World} {A : Option Addr} {n c : Nat} {l : List Pt} (h : SlPt w A n c l) (t : TypeId) (B : Nat) (hB : B = w.heap.size) : SlRg (w.alloc (.cells #[.slice A n c, .slice A n c] t)) (some ⟨B, 0, none⟩) 2 2 [(l, ⟨A, c⟩), (l, ⟨A, c⟩)] := by
  obtain rfl := h.len
  subst hB
  refine ⟨rfl, Nat.le_refl _, by unfold maxLen; omega, Lies.new _ _ _ 2 _ rfl _ rfl, fun x hx => ?_⟩
  simp only [List.mem_cons, List.not_mem_nil, or_false] at hx
  rcases hx with rfl | rfl
  all_goals exact h.below (by repeat' (first | with_reducible exact Below.refl _ _ | with_reducible refine below_drewN ?_ _ | with_reducible refine Below.drew ?_ | with_reducible refine Below.alloc ?_ ?_ _ | with_reducible refine Below.setCell ?_ ?_ _ | with_reducible refine Below.trans ?_ (Below.mono (by with_reducible assumption) ?_) | (simp; done) | (simp; omega) | omega))
set_option maxHeartbeats 16000000 in
set_option maxRecDepth 100000 in
theorem turnsLaw (A0 : Option Addr) (n0 c0 : Nat) (zs : List Int) (w : World) (hn : zs.length = n0) (hc : n0 ≤ c0) (hm : c0 ≤ maxLen) (hw : ∀ z ∈ zs, (Lit.int .i64 z).wf = true) (hA : Lies w A0 n0 (zs.map (.int .i64))) :
    Calls Tryz.prog 7 #[.slice A0 n0 c0] w fun e w' => e = .returned (.bool true) ∧ Below w.heap.size w w' := by
  obtain ⟨i0, hi, hz0, hz1, hz2⟩ := info_parts Tryz.infoPoint
  have HN := Lib.hid (new_any A0 n0 c0 zs w hn hc hm hw hA)
  have HAw := Lib.hid (fun W => awake05_any W)
  clear hn hw hA
  go_enter Tryz.func7, Tryz.ntmps7
  go_upto_region 2 with (first
    | (go_at_call 8
       refine HN.out.mono ?_
       rintro e w0 ⟨g, rfl, hg, ht, hb0⟩
       have HT0 := Lib.hid ht
       have Hb0 := Lib.hid hb0
       clear ht hb0)
    | (go_at_call 16
       refine (ringT_any g _ _ HT0.out).mono ?_
       rintro e w1 ⟨v1, l, r1, rfl, hD, h8, hl⟩
       have hgr := hD.gr
       have ho := hD.own
       obtain ⟨A, c, rfl, hS⟩ := SlPt.of_own ho
       obtain ⟨n, hn⟩ : ∃ n, l.length = n := ⟨_, rfl⟩
       rw [hn] at hS
       rw [hn]
       have HS := Lib.hid hS
       have Hn := Lib.hid hn
       have Hl := Lib.hid hl
       rw [hn] at hl
       have Hb1 : Hid (Below w.heap.size w w1) := Lib.hid (below_only Hb0.out hgr hg Hb0.out.size)
       clear hD h8 hgr ho hS hn)
    | fail)
  have hs1 := Hb1.out.size
  have hln := Hn.out
  have hwn : IntKind.i64.wrap ((n : Int) - 1) = (n : Int) - 1 := IntWalk.i64_in _ (by omega)
  have H0 : Hid (w1.ownsRow w1.heap.size 43 2 (.slice none 0 0) (l.drop n).reverse.length (pCells (l.drop n).reverse)) := Lib.hid (by rw [List.drop_of_length_le (by omega)]; exact World.ownsRow_nil _ _ _ _)
  go_upto_region 4 with fail
  go_wp2
  go_loopw [4, 5] (fun bv iv wr => ∃ (j : Nat), j ≤ n ∧ iv = .int .i64 ((j : Int) - 1) ∧ Hid (wr.ownsRow w1.heap.size 43 2 bv (l.drop j).reverse.length (pCells (l.drop j).reverse)) ∧ Below w1.heap.size w1 wr) (fun _ iv _ => (intOf iv + 1).toNat)
  case atStart => exact ⟨n, Nat.le_refl _, rfl, H0, Below.refl _ _⟩
  case round =>
    obtain ⟨j, hj, rfl, HO, hbr⟩ := hrel
    have Hbr := Lib.hid hbr
    have hsr := hbr.size
    clear hbr
    by_cases hj0 : 0 < j
    · obtain ⟨k, rfl⟩ : ∃ k, j = k + 1 := ⟨j - 1, by omega⟩
      have e : (((k + 1 : Nat) : Int) - 1) = (k : Int) := by omega
      rw [e]
      have hk0 : (0 : Int) ≤ (k : Int) := by omega
      have hkn : (k : Int) < (n : Int) := by omega
      have hkl : k < l.length := by omega
      have hwk : IntKind.i64.wrap ((k : Int) - 1) = (k : Int) - 1 := IntWalk.i64_in _ (by omega)
      obtain ⟨b, off, e1, hb, p0, p1⟩ := (HS.out.below Hbr.out).at k hkl
      subst e1
      have Hdr : Hid ((l.drop k).reverse = (l.drop (k + 1)).reverse ++ [l[k]]) := Lib.hid (by rw [List.drop_eq_getElem_cons hkl, List.reverse_cons])
      have hdl : (l.drop (k + 1)).reverse.length ≤ 11 := by rw [List.length_reverse, List.length_drop]; omega
      generalize l[k] = pk at *
      obtain ⟨px, py⟩ := pk
      dsimp only at *
      obtain ⟨q, hq⟩ : ∃ q, (l.drop (k + 1)).reverse = q := ⟨_, rfl⟩
      rw [hq] at HO Hdr hdl
      clear hq e
      go_wp2_with (first
        | (at_builtin
           go_loud (refine wpList_append_any _ rfl (.tmp 26) (.tmp 31) _ rfl w1.heap.size 43 i0 _ 2 16 Tryz.underlying40 hi hz0 hz1 hz2 rfl (by omega) _ q.length (pCells q) rfl (HO.out.alloc _) _ _ 1 1 [.int .i64 px, .int .i64 py] rfl ⟨rfl, fun _ => ⟨_, rfl, Nat.lt_succ_self _, fun j u hu => (by exact news_any _ _ _ j u hu)⟩⟩ (by simp [Value.oneCell']) (by simp only [maxLen]; omega) (by omega) (by simp; omega) ?_)
           intro v5 w5 hown5 hg5 hat5
           have HO5 : Hid (w5.ownsRow w1.heap.size 43 2 v5 (l.drop k).reverse.length (pCells (l.drop k).reverse)) := Lib.hid (by rw [Hdr.out, List.length_append, pCells_app]; exact hown5)
           have Hb5 : Hid (Below w1.heap.size w1 w5) := Lib.hid ((Hbr.out.alloc hsr _).grown hg5 (by simp; omega) (own_base HO.out))
           clear hown5 hg5 hat5)
        | fail)
      go_roundw
      case rel => exact ⟨k, by omega, by go_num, HO5, Hb5.out⟩
      case measure => simp [intOf]
    · obtain rfl : j = 0 := by omega
      have e : (((0 : Nat) : Int) - 1) = -1 := by omega
      rw [e]
      have ho := HO.out
      rw [List.drop_zero] at ho
      obtain ⟨B, cb, rfl, hS2⟩ := SlPt.of_own ho
      have hrl : l.reverse.length = n := by rw [List.length_reverse, hln]
      rw [hrl] at hS2 HO ⊢
      have HS2 := Lib.hid hS2
      have Hbw : Hid (Below w.heap.size w wr) := Lib.hid (Hb1.out.trans (Hbr.out.mono hs1))
      have HS1 := Lib.hid (HS.out.below Hbr.out)
      clear HO ho hS2 e H0 Hbr
      by_cases hE : ringP l = 0
      · obtain ⟨s, hs1', hs2', hsb⟩ := signed_rev hE
        have hl11 : l.length ≤ 11 := by omega
        have hv1 := (fillV_one hl11).1 hE
        have hv2 : fillV [l.reverse] = (fillR (wallsL [l]), 0) := (fillV_rev hl11 hE).trans hv1
        have hv3 := fillV_two hE
        have hwl : (wallsL [l]).length ≤ 11 := by rw [walls_one]; exact Nat.le_trans (wallsO_len l) hl11
        have hwr : (wallsL [l.reverse]).length ≤ 11 := by rw [walls_one]; exact Nat.le_trans (wallsO_len l.reverse) (by rw [List.length_reverse]; exact hl11)
        have hwt : (wallsL [l, l]).length ≤ 22 := by have := wallsL_len [l, l]; simp at this; omega
        obtain ⟨R, hR⟩ : ∃ R, fillR (wallsL [l]) = R := ⟨_, rfl⟩
        rw [hR] at hv1 hv2
        obtain ⟨m, hm'⟩ : ∃ m, R.length = m := ⟨_, rfl⟩
        have HR := Lib.hid hm'
        have HSg1 : Hid (∀ W, SlPt W A n c l → Calls Tryz.prog 21 #[.slice A n c] W fun e w' => e = .returned (.tuple #[.int .i64 s, .int .i64 0]) ∧ Below W.heap.size W w') := Lib.hid (fun W h => by have := signedO_any A n c l W h; rw [hs1'] at this; exact this)
        have HSg2 : Hid (∀ W, SlPt W B n cb l.reverse → Calls Tryz.prog 21 #[.slice B n cb] W fun e w' => e = .returned (.tuple #[.int .i64 (-s), .int .i64 0]) ∧ Below W.heap.size W w') := Lib.hid (fun W h => by have := signedO_any B n cb l.reverse W h; rw [hs2'] at this; exact this)
        have HF1 : Hid (∀ C W, SlRg W C 1 1 [(l, ⟨A, c⟩)] → Calls Tryz.prog 18 #[.slice C 1 1] W (RegPost W (R, 0))) := Lib.hid (fun C W h => by have := fill_any C 1 1 _ W h (fun r hr => by simp [rgPts] at hr; subst hr; omega) (by simp only [rgPts, List.map_cons, List.map_nil]; omega); simp only [rgPts, List.map_cons, List.map_nil] at this; rw [hv1] at this; exact this)
        have HF2 : Hid (∀ C W, SlRg W C 1 1 [(l.reverse, ⟨B, cb⟩)] → Calls Tryz.prog 18 #[.slice C 1 1] W (RegPost W (R, 0))) := Lib.hid (fun C W h => by have := fill_any C 1 1 _ W h (fun r hr => by simp [rgPts] at hr; subst hr; rw [List.length_reverse]; omega) (by simp only [rgPts, List.map_cons, List.map_nil]; omega); simp only [rgPts, List.map_cons, List.map_nil] at this; rw [hv2] at this; exact this)
        have HF3 : Hid (∀ C W, SlRg W C 2 2 [(l, ⟨A, c⟩), (l, ⟨A, c⟩)] → Calls Tryz.prog 18 #[.slice C 2 2] W (RegPost W ([], 0))) := Lib.hid (fun C W h => by have := fill_any C 2 2 _ W h (fun r hr => by simp [rgPts] at hr; subst hr; omega) (by simp only [rgPts, List.map_cons, List.map_nil]; omega); simp only [rgPts, List.map_cons, List.map_nil] at this; rw [hv3] at this; exact this)
        have HSm : Hid (∀ C D cc dd W, SlR W C m cc R → SlR W D m dd R → Calls Tryz.prog 20 #[.agg #[.slice C m cc], .agg #[.slice D m dd]] W fun e w' => e = .returned (.bool true) ∧ Below W.heap.size W w') := Lib.hid (fun C D cc dd W h1 h2 => by have := sameRef_any C D m cc m dd R R W h1 h2; simpa using this)
        have hneg : IntKind.i64.wrap (-(-s)) = s := by rw [IntWalk.i64_in _ (by omega)]; omega
        clear hs1' hs2' hv1 hv2 hv3 hwl hwr hwt hR hm'
        go_upto_region 8 with (first
          | (go_at_call 21
             refine (HSg1.out _ (HS1.out)).mono ?_
             rintro e w2 ⟨rfl, hb2⟩
             have Hb2 : Hid (Below wr.heap.size wr w2) := Lib.hid (hb2)
             clear hb2)
          | fail)
        go_upto_region 9 with (first
          | (go_at_call 21
             refine (HSg2.out _ (HS2.out.below Hb2.out)).mono ?_
             rintro e w3 ⟨rfl, hb3⟩
             have Hb3 : Hid (Below wr.heap.size wr w3) := Lib.hid (Hb2.out.trans (hb3.mono Hb2.out.size))
             clear hb3)
          | fail)
        go_upto_region 12 with (first
          | (go_at_call 18
             refine (HF1.out _ _ (one_ring (HS1.out.below Hb3.out) _ _ rfl)).mono ?_
             rintro e w4 ⟨v1, rfl, hown1, hb1⟩
             have Hb4 : Hid (Below wr.heap.size wr w4) := Lib.hid (Hb3.out.trans ((((Below.refl _ w3).alloc (Nat.le_refl _) _).trans (hb1.mono (by simp))).mono Hb3.out.size))
             obtain ⟨F1, F1c, rfl, hFF1⟩ := SlR.of_own hown1
             dsimp only at hFF1 ⊢
             rw [HR.out] at hFF1
             rw [HR.out]
             have HF1 := Lib.hid hFF1
             clear hown1 hb1)
          | fail)
        obtain ⟨w5, hw5⟩ : ∃ w5 : World, w5 = w4.alloc (.cells #[.slice F1 m F1c] 25) := ⟨_, rfl⟩
        rw [← hw5]
        have hr5 : w5.heap[w4.heap.size]? = some (.cells #[.slice F1 m F1c] 25 (0, 0)) := by rw [hw5]; exact heap_alloc_new w4 _
        have f5 := cell_of_row w5 w4.heap.size 0 _ _ _ hr5
        have hd5 : Below w4.heap.size w4 w5 := by rw [hw5]; exact (Below.refl _ _).alloc (Nat.le_refl _) _
        have Hb5 : Hid (Below wr.heap.size wr w5) := Lib.hid (Hb4.out.trans (hd5.mono Hb4.out.size))
        have hk5 : w4.heap.size < w5.heap.size := by rw [hw5]; simp
        have HF1' := Lib.hid (HF1.out.below hd5)
        obtain ⟨K1, hK1⟩ : ∃ K, w4.heap.size = K := ⟨_, rfl⟩
        rw [hK1] at f5 hk5 ⊢
        clear hw5 hr5 hK1 hd5
        go_upto_region 13 with (first
          | (go_at_call 18
             refine (HF2.out _ _ (one_ring (HS2.out.below Hb5.out) _ _ rfl)).mono ?_
             rintro e w6 ⟨v2, rfl, hown2, hb2⟩
             have hb2' : Below w5.heap.size w5 w6 := ((Below.refl _ w5).alloc (Nat.le_refl _) _).trans (hb2.mono (by simp))
             have Hb6 : Hid (Below wr.heap.size wr w6) := Lib.hid (Hb5.out.trans ((((Below.refl _ w5).alloc (Nat.le_refl _) _).trans (hb2.mono (by simp))).mono Hb5.out.size))
             obtain ⟨F2, F2c, rfl, hFF2⟩ := SlR.of_own hown2
             dsimp only at hFF2 ⊢
             rw [HR.out] at hFF2
             rw [HR.out]
             have HF2 := Lib.hid hFF2
             have g6 := (hb2'.cell (p := ⟨K1, 0, none⟩) hk5).trans f5
             have HF1'' := Lib.hid (HF1'.out.below hb2')
             have hz6 := hb2'.size
             clear hown2 hb2 hb2' f5)
          | fail)
        obtain ⟨w7, hw7⟩ : ∃ w7 : World, w7 = w6.alloc (.cells #[.slice F2 m F2c] 25) := ⟨_, rfl⟩
        rw [← hw7]
        have hr7 : w7.heap[w6.heap.size]? = some (.cells #[.slice F2 m F2c] 25 (0, 0)) := by rw [hw7]; exact heap_alloc_new w6 _
        have f7 := cell_of_row w7 w6.heap.size 0 _ _ _ hr7
        have hd7 : Below w6.heap.size w6 w7 := by rw [hw7]; exact (Below.refl _ _).alloc (Nat.le_refl _) _
        have Hb7 : Hid (Below wr.heap.size wr w7) := Lib.hid (Hb6.out.trans (hd7.mono Hb6.out.size))
        have hk7 : w6.heap.size < w7.heap.size := by rw [hw7]; simp
        have HF2' := Lib.hid (HF2.out.below hd7)
        have g7 := (hd7.cell (p := ⟨K1, 0, none⟩) (by show K1 < _; omega)).trans g6
        have hz7 := hd7.size
        have HF1''' := Lib.hid (HF1''.out.below hd7)
        obtain ⟨K2, hK2⟩ : ∃ K, w6.heap.size = K := ⟨_, rfl⟩
        rw [hK2] at f7 hk7 ⊢
        clear g6 hw7 hr7 hK2 hd7
        go_upto_region 14 with (first
          | (go_at_call 18
             refine (HF3.out _ _ (twice_ring (HS1.out.below Hb7.out) _ _ rfl)).mono ?_
             rintro e w8 ⟨v3, rfl, hown3, hb3⟩
             have hb3' : Below w7.heap.size w7 w8 := ((Below.refl _ w7).alloc (Nat.le_refl _) _).trans (hb3.mono (by simp))
             have Hb8 : Hid (Below wr.heap.size wr w8) := Lib.hid (Hb7.out.trans (hb3'.mono Hb7.out.size))
             obtain ⟨F3, F3c, rfl, hF3⟩ := SlR.of_own hown3
             dsimp only at hF3 ⊢
             (try simp only [List.length_nil])
             have g8 := (hb3'.cell (p := ⟨K1, 0, none⟩) (by show K1 < _; omega)).trans g7
             have e8 := (hb3'.cell (p := ⟨K2, 0, none⟩) hk7).trans f7
             have HA8 := Lib.hid (HF1'''.out.below hb3')
             have HB8 := Lib.hid (HF2'.out.below hb3')
             have hz8 := hb3'.size
             clear hown3 hb3 hb3' f7 g7 hF3)
          | fail)
        obtain ⟨w9, hw9⟩ : ∃ w9 : World, w9 = w8.alloc (.cells #[.slice F3 0 F3c] 25) := ⟨_, rfl⟩
        rw [← hw9]
        have hr9 : w9.heap[w8.heap.size]? = some (.cells #[.slice F3 0 F3c] 25 (0, 0)) := by rw [hw9]; exact heap_alloc_new w8 _
        have f9 := cell_of_row w9 w8.heap.size 0 _ _ _ hr9
        have hd9 : Below w8.heap.size w8 w9 := by rw [hw9]; exact (Below.refl _ _).alloc (Nat.le_refl _) _
        have Hb9 : Hid (Below wr.heap.size wr w9) := Lib.hid (Hb8.out.trans (hd9.mono Hb8.out.size))
        have g9 := (hd9.cell (p := ⟨K1, 0, none⟩) (by show K1 < _; omega)).trans g8
        have e9 := (hd9.cell (p := ⟨K2, 0, none⟩) (by show K2 < _; omega)).trans e8
        have HA9 := Lib.hid (HA8.out.below hd9)
        have HB9 := Lib.hid (HB8.out.below hd9)
        have hk9 : w8.heap.size < w9.heap.size := by rw [hw9]; simp
        obtain ⟨K3, hK3⟩ : ∃ K, w8.heap.size = K := ⟨_, rfl⟩
        rw [hK3] at f9 hk9 ⊢
        clear hw9 hr9 hK3 hd9 g8 e8
        go_wp2_with (first
          | (go_at_call 20
             refine (HSm.out _ _ _ _ _ HA9.out HB9.out).mono ?_
             rintro e wa ⟨rfl, hba⟩
             have Hba : Hid (Below wr.heap.size wr wa) := Lib.hid (Hb9.out.trans (hba.mono Hb9.out.size))
             have fa := (hba.cell (p := ⟨K3, 0, none⟩) hk9).trans f9
             clear hba)
          | (go_at_call 12
             refine (HAw.out _).mono ?_
             rintro e wb ⟨rfl, hbb⟩
             have Hbb : Hid (Below wr.heap.size wr wb) := Lib.hid (Hba.out.trans (hbb.mono Hba.out.size))
             clear hbb)
          | fail)
        go_ret
        exact ⟨rfl, Hbw.out.trans (Hbb.out.mono (by have := Hbw.out.size; exact this))⟩
      · have hl11 : l.length ≤ 11 := by omega
        obtain ⟨E, hEe⟩ : ∃ E, ringP l = E := ⟨_, rfl⟩
        have hs1' := signed_bad hE
        have hs2' := signed_bad (r := l.reverse) (by rw [ringP_rev]; exact hE)
        rw [ringP_rev] at hs2'
        have hv1 := (fillV_one hl11).2
        rw [hEe] at hs1' hs2' hv1 hE
        have hwl : (wallsL [l]).length ≤ 11 := by rw [walls_one]; exact Nat.le_trans (wallsO_len l) hl11
        have hwr : (wallsL [l.reverse]).length ≤ 11 := by rw [walls_one]; exact Nat.le_trans (wallsO_len l.reverse) (by rw [List.length_reverse]; exact hl11)
        have hwt : (wallsL [l, l]).length ≤ 22 := by have := wallsL_len [l, l]; simp at this; omega
        have HSg1 : Hid (∀ W, SlPt W A n c l → Calls Tryz.prog 21 #[.slice A n c] W fun e w' => e = .returned (.tuple #[.int .i64 0, .int .i64 E]) ∧ Below W.heap.size W w') := Lib.hid (fun W h => by have := signedO_any A n c l W h; rw [hs1'] at this; exact this)
        have HSg2 : Hid (∀ W, SlPt W B n cb l.reverse → Calls Tryz.prog 21 #[.slice B n cb] W fun e w' => e = .returned (.tuple #[.int .i64 0, .int .i64 E]) ∧ Below W.heap.size W w') := Lib.hid (fun W h => by have := signedO_any B n cb l.reverse W h; rw [hs2'] at this; exact this)
        obtain ⟨R1, hR1⟩ : ∃ R, fillV [l] = R := ⟨_, rfl⟩
        obtain ⟨R2, hR2⟩ : ∃ R, fillV [l.reverse] = R := ⟨_, rfl⟩
        obtain ⟨R3, hR3⟩ : ∃ R, fillV [l, l] = R := ⟨_, rfl⟩
        have HF1 : Hid (∀ C W, SlRg W C 1 1 [(l, ⟨A, c⟩)] → Calls Tryz.prog 18 #[.slice C 1 1] W (RegPost W (R1.1, E))) := Lib.hid (fun C W h => by have := fill_any C 1 1 _ W h (fun r hr => by simp [rgPts] at hr; subst hr; omega) (by simp only [rgPts, List.map_cons, List.map_nil]; omega); simp only [rgPts, List.map_cons, List.map_nil] at this; rw [hR1] at this; rw [hR1] at hv1; rw [← hv1]; exact this)
        have HF2 : Hid (∀ C W, SlRg W C 1 1 [(l.reverse, ⟨B, cb⟩)] → Calls Tryz.prog 18 #[.slice C 1 1] W (RegPost W (R2.1, R2.2))) := Lib.hid (fun C W h => by have := fill_any C 1 1 _ W h (fun r hr => by simp [rgPts] at hr; subst hr; rw [List.length_reverse]; omega) (by simp only [rgPts, List.map_cons, List.map_nil]; omega); simp only [rgPts, List.map_cons, List.map_nil] at this; rw [hR2] at this; exact this)
        have HF3 : Hid (∀ C W, SlRg W C 2 2 [(l, ⟨A, c⟩), (l, ⟨A, c⟩)] → Calls Tryz.prog 18 #[.slice C 2 2] W (RegPost W (R3.1, R3.2))) := Lib.hid (fun C W h => by have := fill_any C 2 2 _ W h (fun r hr => by simp [rgPts] at hr; subst hr; omega) (by simp only [rgPts, List.map_cons, List.map_nil]; omega); simp only [rgPts, List.map_cons, List.map_nil] at this; rw [hR3] at this; exact this)
        clear hs1' hs2' hv1 hwl hwr hwt hEe hR1 hR2 hR3
        generalize R1.1 = Q1 at *
        generalize R2.1 = Q2 at *
        generalize R3.1 = Q3 at *
        generalize R2.2 = E2 at *
        generalize R3.2 = E3 at *
        have hE' : ¬ E = 0 := hE
        have hEd : decide (E = 0) = false := decide_eq_false hE
        have hEb : (E == 0) = false := by simpa using hE
        have hEn : (E != 0) = true := by simpa using hE
        go_upto_region 8 with (first
          | (go_at_call 21
             refine (HSg1.out _ (HS1.out)).mono ?_
             rintro e w2 ⟨rfl, hb2⟩
             have HB : Hid (Below wr.heap.size wr w2) := Lib.hid hb2
             clear hb2)
          | fail)
        go_upto_region 9 with (first
          | (go_at_call 21
             refine (HSg2.out _ (HS2.out.below HB.out)).mono ?_
             rintro e w3 ⟨rfl, hb3⟩
             have HB : Hid (Below wr.heap.size wr w3) := Lib.hid (HB.out.trans (hb3.mono HB.out.size))
             clear hb3)
          | fail)
        go_upto_region 12 with (first
          | (go_at_call 18
             refine (HF1.out _ _ (one_ring (HS1.out.below HB.out) _ _ rfl)).mono ?_
             rintro e w4 ⟨v4, rfl, hown4, hb4⟩
             obtain ⟨F4, c4, rfl, -⟩ := SlR.of_own hown4
             dsimp only
             have HB : Hid (Below wr.heap.size wr w4) := Lib.hid (by
               have hA1 := fun o => HB.out.alloc HB.out.size o
               exact (hA1 _).trans (hb4.mono (hA1 _).size))
             clear hown4 hb4)
          | fail)
        obtain ⟨wx, hwx⟩ : ∃ wx : World, wx = w4.alloc (.cells #[.slice F4 Q1.length c4] 25) := ⟨_, rfl⟩
        rw [← hwx]
        have HB : Hid (Below wr.heap.size wr wx) := Lib.hid (by rw [hwx]; exact HB.out.alloc HB.out.size _)
        clear hwx
        go_upto_region 13 with (first
          | (go_at_call 18
             refine (HF2.out _ _ (one_ring (HS2.out.below HB.out) _ _ rfl)).mono ?_
             rintro e w5 ⟨v5, rfl, hown5, hb5⟩
             obtain ⟨F5, c5, rfl, -⟩ := SlR.of_own hown5
             dsimp only
             have HB : Hid (Below wr.heap.size wr w5) := Lib.hid (by
               have hA1 := fun o => HB.out.alloc HB.out.size o
               exact (hA1 _).trans (hb5.mono (hA1 _).size))
             clear hown5 hb5)
          | fail)
        obtain ⟨wy, hwy⟩ : ∃ wy : World, wy = w5.alloc (.cells #[.slice F5 Q2.length c5] 25) := ⟨_, rfl⟩
        rw [← hwy]
        have HB : Hid (Below wr.heap.size wr wy) := Lib.hid (by rw [hwy]; exact HB.out.alloc HB.out.size _)
        clear hwy
        go_upto_region 14 with (first
          | (go_at_call 18
             refine (HF3.out _ _ (twice_ring (HS1.out.below HB.out) _ _ rfl)).mono ?_
             rintro e w6 ⟨v6, rfl, hown6, hb6⟩
             obtain ⟨F6, c6, rfl, -⟩ := SlR.of_own hown6
             dsimp only
             have HB : Hid (Below wr.heap.size wr w6) := Lib.hid (by
               have hA1 := fun o => HB.out.alloc HB.out.size o
               exact (hA1 _).trans (hb6.mono (hA1 _).size))
             clear hown6 hb6)
          | fail)
        obtain ⟨wz, hwz⟩ : ∃ wz : World, wz = w6.alloc (.cells #[.slice F6 Q3.length c6] 25) := ⟨_, rfl⟩
        rw [← hwz]
        have HB : Hid (Below wr.heap.size wr wz) := Lib.hid (by rw [hwz]; exact HB.out.alloc HB.out.size _)
        clear hwz
        go_wp2_with (first
          | (go_at_call 12
             refine (HAw.out _).mono ?_
             rintro e wb ⟨rfl, hbb⟩
             have HB : Hid (Below wr.heap.size wr wb) := Lib.hid (HB.out.trans (hbb.mono HB.out.size))
             clear hbb)
          | fail)
        go_ret
        exact ⟨rfl, Hbw.out.trans (HB.out.mono Hbw.out.size)⟩
end Go.Proofs.YtpcfhcdbibklcaaGreat
