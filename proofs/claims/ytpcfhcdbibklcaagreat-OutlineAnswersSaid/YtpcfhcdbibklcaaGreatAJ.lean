/- Plain: what the reference fills is what the program fills. -/
import Derived.Test.YtpcfhcdbibklcaaGreatAT
import Derived.Test.YtpcfhcdbibklcaaGreatAB
import Derived.Test.YtpcfhcdbibklcaaGreatAH
import Derived.Test.YtpcfhcdbibklcaaGreatAI
namespace Go.Proofs.YtpcfhcdbibklcaaGreat
open Go.RowKit
set_option linter.unusedVariables false
set_option linter.unusedSimpArgs false

/-- A list of rectangles that was broken in one of five ways. -/
def brkP (a : List R4) (k : Nat) (z : Int) : List R4 :=
  match a[k]? with
  | none => a
  | some q => if z = 0 then a.set k ⟨q.l, q.b, q.r + 1, q.t⟩ else if z = 1 then a.set k ⟨-1, q.b, q.r, q.t⟩ else if z = 2 then a ++ [q] else if z = 3 then (match a[0]? with | none => a | some p => (a.set 0 q).set k p) else a.set k ⟨q.l, q.b, q.r, q.b⟩
/-- What Broken makes of the tape, and what is left of it. -/
def mkBrk (r : List Int) (side most : Int) : List R4 × List Int :=
  if (mkReg r side most).1.length = 0 then mkReg r side most
  else if oneB (mkReg r side most).2 6 then (brkP (mkReg r side most).1 (nx (mkReg r side most).2.tail (mkReg r side most).1.length).toNat (nx (mkReg r side most).2.tail.tail 5), (mkReg r side most).2.tail.tail.tail)
  else ((mkReg r side most).1, (mkReg r side most).2.tail)
theorem brk_some {a : List R4} {k : Nat} (h : k < a.length) : a[k]? = some a[k] := List.getElem?_eq_getElem h
theorem rCells_set4 (l : List R4) (i : Nat) (h : i < l.length) (z : R4) : rCells (l.set i z) = ((((rCells l).set (i * 4) (.int .i64 z.l)).set (i * 4 + 1) (.int .i64 z.b)).set (i * 4 + 2) (.int .i64 z.r)).set (i * 4 + 3) (.int .i64 z.t) := by
  obtain ⟨p, q, e1, e2, e3⟩ := rCells_split l i h
  rw [e3, e1, ← e2]
  simp [List.set_append]
theorem rCells_setL (l : List R4) (i : Nat) (h : i < l.length) (x : Int) : rCells (l.set i ⟨x, l[i].b, l[i].r, l[i].t⟩) = (rCells l).set (i * 4) (.int .i64 x) := by
  obtain ⟨p, q, e1, e2, e3⟩ := rCells_split l i h
  rw [e3, e1, ← e2]
  simp [List.set_append]

theorem own_rectB {w : World} {base g n c : Nat} {l : List R4} (h : w.ownsRow base 58 4 (.slice (some ⟨g, 0, none⟩) n c) n (rCells l)) (i : Nat) (hi : i < l.length) (z : R4) :
    ((((w.setCell ⟨g, i * 4, none⟩ (.int .i64 z.l)).setCell ⟨g, i * 4 + 1, none⟩ (.int .i64 z.b)).setCell ⟨g, i * 4 + 2, none⟩ (.int .i64 z.r)).setCell ⟨g, i * 4 + 3, none⟩ (.int .i64 z.t)).ownsRow base 58 4 (.slice (some ⟨g, 0, none⟩) n c) n (rCells (l.set i z)) := by
  rw [rCells_set4 l i hi z]
  exact own_setN (own_setN (own_setN (own_setN h _ _) _ _) _ _) _ _
theorem own_rect0 {w : World} {base g n c : Nat} {l : List R4} (h : w.ownsRow base 58 4 (.slice (some ⟨g, 0, none⟩) n c) n (rCells l)) (hi : 0 < l.length) (z : R4) :
    ((((w.setCell ⟨g, 0, none⟩ (.int .i64 z.l)).setCell ⟨g, 1, none⟩ (.int .i64 z.b)).setCell ⟨g, 2, none⟩ (.int .i64 z.r)).setCell ⟨g, 3, none⟩ (.int .i64 z.t)).ownsRow base 58 4 (.slice (some ⟨g, 0, none⟩) n c) n (rCells (l.set 0 z)) := own_rectB h 0 hi z
theorem only4 {a w : World} {g : Nat} (h : a.grownBy w (some g)) {i j k l : Nat} {x y z u : Value} : a.grownBy ((((w.setCell ⟨g, i, none⟩ x).setCell ⟨g, j, none⟩ y).setCell ⟨g, k, none⟩ z).setCell ⟨g, l, none⟩ u) (some g) :=
  only_setCell (only_setCell (only_setCell (only_setCell h (.inl rfl) _) (.inl rfl) _) (.inl rfl) _) (.inl rfl) _
/-- What Broken has behind its turns: the list, the tape, the block of the result. -/
structure BrkW (w wx : World) (g : Nat) (v : Value) (l : List R4) (r : List Int) : Prop where
  own : wx.ownsRow (w.heap.size + 1) 58 4 v l.length (rCells l)
  tape : TapeAt wx g r
  grown : w.grownBy wx (some g)
  row : wx.heap[w.heap.size]? = some (.cells #[.slice none 0 0] 25 (0, 0))
theorem BrkW.size {w wx : World} {g : Nat} {v : Value} {l : List R4} {r : List Int} (h : BrkW w wx g v l r) : w.heap.size < wx.heap.size := by
  rcases Nat.lt_or_ge w.heap.size wx.heap.size with h1 | h1
  · exact h1
  · have := h.row; rw [Array.getElem?_eq_none h1] at this; cases this
theorem BrkW.c {w wx : World} {g : Nat} {v : Value} {l : List R4} {r : List Int} (h : BrkW w wx g v l r) : wx.cell? ⟨w.heap.size, 0, none⟩ = some (.slice none 0 0) := cell_of_row _ _ 0 _ _ _ h.row
theorem BrkW.f {w wx : World} {g : Nat} {v : Value} {l : List R4} {r : List Int} (h : BrkW w wx g v l r) : wx.frozen? ⟨w.heap.size, 0, none⟩ = false := frozen_of_row _ _ 0 _ _ h.row
theorem BrkW.same {w wx : World} {g : Nat} {v : Value} {l : List R4} {r : List Int} (h : BrkW w wx g v l r) (u : Value) : (wx.setCell ⟨w.heap.size, 0, none⟩ u).cell? ⟨w.heap.size, 0, none⟩ = some u := by
  rw [cell_of_row _ w.heap.size 0 _ _ _ (heap_setCell_same wx w.heap.size 0 _ _ _ h.row)]
  simp
theorem BrkW.ends {w wx : World} {g : Nat} {v : Value} {l : List R4} {r : List Int} (h : BrkW w wx g v l r) (hg : g < w.heap.size) : RegTPost w g (l, r) (.returned (.agg #[v])) (wx.setCell ⟨w.heap.size, 0, none⟩ v) := by
  refine ⟨v, rfl, ?_, ?_, ?_⟩
  · exact own_other (own_rebase h.own (by omega)) (only_setCell (g := w.heap.size) (World.grownBy.refl _ _) (.inl rfl) _) (fun k hk e => by injection e with e; have := own_base h.own k hk; omega)
  · exact h.tape.setCell (by simp; omega) _
  · exact only_setCell h.grown (.inr (Nat.le_refl _)) _
/-- A step that changes only the tape, or what is new. -/
theorem BrkW.step {w wx wy : World} {g : Nat} {v : Value} {l : List R4} {r r' : List Int} (h : BrkW w wx g v l r) (hg : wx.grownBy wy (some g)) (hlt : g < w.heap.size) (ht : TapeAt wy g r') : BrkW w wy g v l r' :=
  ⟨ownsRow_only h.own hg (by omega), ht, only_trans h.grown hg, (hg.block _ h.size (by intro e; injection e; omega)).trans h.row⟩
/-- The row is turned. -/
theorem BrkW.turn {w wx wy : World} {g G n c : Nat} {l l' : List R4} {r : List Int} (h : BrkW w wx g (.slice (some ⟨G, 0, none⟩) n c) l r) (hlt : g < w.heap.size) (hG : w.heap.size + 1 ≤ G) (hg : wx.grownBy wy (some G)) (ho : wy.ownsRow (w.heap.size + 1) 58 4 (.slice (some ⟨G, 0, none⟩) n c) n (rCells l')) (hn : l'.length = n) : BrkW w wy g (.slice (some ⟨G, 0, none⟩) n c) l' r := by
  subst hn
  refine ⟨ho, h.tape.grown hg (fun q hq => ?_), only_grown h.grown hg (fun q hq => by injection hq with hq; omega), (hg.block _ h.size (by intro e; injection e; omega)).trans h.row⟩
  injection hq with hq
  omega
/-- The row has grown. -/
theorem BrkW.more {w wx wy : World} {g : Nat} {v v' : Value} {l l' : List R4} {r : List Int} {row : Option Nat} (h : BrkW w wx g v l r) (hlt : g < w.heap.size) (hr : ∀ q, row = some q → w.heap.size + 1 ≤ q) (hg : wx.grownBy wy row) (ho : wy.ownsRow (w.heap.size + 1) 58 4 v' l'.length (rCells l')) : BrkW w wy g v' l' r := by
  refine ⟨ho, h.tape.grown hg (fun q hq => ?_), only_grown h.grown hg (fun q hq => by have := hr q hq; omega), (hg.block _ h.size (by intro e; have := hr _ e.symm; omega)).trans h.row⟩
  have := hr q hq
  omega
theorem BrkW.alloc {w wx : World} {g : Nat} {v : Value} {l : List R4} {r : List Int} (h : BrkW w wx g v l r) (hlt : g < w.heap.size) (o : Obj) : BrkW w (wx.alloc o) g v l r := h.step (only_alloc (World.grownBy.refl _ _) _) hlt (h.tape.alloc _)

theorem World.drew_brk {w wx : World} {g : Nat} {v : Value} {l : List R4} {r : List Int} (h : BrkW w wx g v l r) : BrkW w wx.drew g v l r := ⟨h.own.drew, h.tape.drew, only_drew h.grown, h.row⟩

set_option maxHeartbeats 16000000 in
set_option maxRecDepth 100000 in
theorem broken_any (g : Nat) (r : List Int) (side most : Int) (w : World) (ht : TapeAt w g r) (hs : 1 ≤ side ∧ side ≤ 1000) (hm : 0 ≤ most ∧ most ≤ 7) :
    Calls Tryz.prog 15 #[.pointer (some ⟨g, 0, none⟩), .int .i64 side, .int .i64 most] w (RegTPost w g (mkBrk r side most)) := by
  obtain ⟨i0, hi, hz0, hz1, hz2⟩ := info_parts Tryz.infoRect
  have hlt := ht.lt
  have HC := Lib.hid (fun W (hW : TapeAt W g r) => region_any g r side most W hW hs ⟨hm.1, by omega⟩)
  have HR := Lib.hid (mkReg_reg r side most hs.1 hs.2 hm.1 hm.2)
  obtain ⟨⟨ra, r1⟩, hp⟩ : ∃ p, mkReg r side most = p := ⟨_, rfl⟩
  rw [hp] at HC HR
  have Hbrk : Hid (mkBrk r side most = if ra.length = 0 then (ra, r1) else if oneB r1 6 then (brkP ra (nx r1.tail ra.length).toNat (nx r1.tail.tail 5), r1.tail.tail.tail) else (ra, r1.tail)) := Lib.hid (by unfold mkBrk; rw [hp])
  clear hp
  generalize mkBrk r side most = res at *
  have Hok : Hid (ra.all R4.ok = true) := Lib.hid (HR.out.ins.ok hs.2)
  have hn91 : ra.length ≤ 91 := by
    have h1 := HR.out.len
    obtain ⟨k, hk⟩ := Int.eq_ofNat_of_zero_le hm.1
    subst hk
    simp only [Int.toNat_natCast] at h1
    have h2 : (2 * k - 1) * k ≤ 13 * 7 := Nat.mul_le_mul (by omega) (by omega)
    omega
  clear HR
  obtain ⟨n, hn⟩ : ∃ n, ra.length = n := ⟨_, rfl⟩
  have Hn := Lib.hid hn
  rw [hn] at Hbrk hn91
  clear hn
  go_enter Tryz.func15, Tryz.ntmps15
  go_upto_region 1 with fail
  obtain ⟨wz, hwz⟩ : ∃ wz : World, wz = w.alloc (.cells #[.slice none 0 0] 25) := ⟨_, rfl⟩
  rw [← hwz]
  have HTz : Hid (TapeAt wz g r) := Lib.hid (by rw [hwz]; exact ht.alloc _)
  have Hrz : Hid (wz.heap[w.heap.size]? = some (.cells #[.slice none 0 0] 25 (0, 0))) := Lib.hid (by rw [hwz]; exact heap_alloc_new w _)
  have hsz : wz.heap.size = w.heap.size + 1 := by rw [hwz]; simp
  have Hgz : Hid (w.grownBy wz (some g)) := Lib.hid (by rw [hwz]; exact only_alloc (World.grownBy.refl _ _) _)
  clear hwz ht
  go_upto_region 2 with (first
    | (go_at_call 9
       refine (HC.out _ HTz.out).mono ?_
       rintro e w1 ⟨v1, rfl, hown1, ht1, hg1⟩
       simp only at hown1 ht1
       have Hown1 := Lib.hid hown1
       obtain ⟨A1, c1, rfl, hS1⟩ := SlR.of_own hown1
       rw [Hn.out] at hS1 ⊢
       have HS1 := Lib.hid hS1
       have HT1 := Lib.hid ht1
       have hs1 := hg1.size
       have Hr1 : Hid (w1.heap[w.heap.size]? = some (.cells #[.slice none 0 0] 25 (0, 0))) := Lib.hid ((hg1.block _ (by omega) (by intro e; injection e; omega)).trans Hrz.out)
       have Hg1 : Hid (w.grownBy w1 (some g)) := Lib.hid (only_trans Hgz.out hg1)
       clear hS1 ht1 hg1 hown1)
    | fail)
  obtain ⟨wa, hwa⟩ : ∃ wa : World, wa = w1.alloc (.cells #[.slice A1 n c1] 25) := ⟨_, rfl⟩
  rw [← hwa]
  have HSa : Hid (SlR wa A1 n c1 ra) := Lib.hid (by rw [hwa]; exact HS1.out.alloc _)
  have Hca : Hid (wa.heap[w1.heap.size]? = some (.cells #[.slice A1 n c1] 25 (0, 0))) := Lib.hid (by rw [hwa]; exact heap_alloc_new w1 _)
  have hsa : wa.heap.size = w1.heap.size + 1 := by rw [hwa]; simp
  have HWa : Hid (BrkW w wa g (.slice A1 n c1) ra r1) := Lib.hid (by
    rw [hwa]
    refine ⟨?_, HT1.out.alloc _, only_alloc Hg1.out _, (Below.heap_alloc w1 _ _ (by omega)).trans Hr1.out⟩
    have h1 := (own_rebase Hown1.out (base' := w.heap.size + 1) (by omega)).alloc (.cells #[.slice A1 n c1] 25)
    rwa [Hn.out] at h1 ⊢)
  have ca := cell_of_row wa w1.heap.size 0 _ _ _ Hca.out
  clear hwa HS1 HT1 Hr1 Hg1 Hown1 HTz Hrz Hgz HC
  by_cases hn0 : n = 0
  · have Hres : Hid (res = (ra, r1)) := Lib.hid (by rw [Hbrk.out, if_pos hn0])
    have hn0' : ((n : Nat) : Int) = 0 := by omega
    have hd0 : decide (n = 0) = true := decide_eq_true hn0
    have HWz : Hid (BrkW w wa g (.slice A1 0 c1) ra r1) := Lib.hid (by have := HWa.out; rwa [hn0] at this)
    have cE := HWz.out.c
    have fE := HWz.out.f
    have sE := HWz.out.same (.slice A1 0 c1)
    go_wp2
    refine bodyPost_ret (v := .agg #[.slice A1 0 c1]) (by simp [results, Tryz.results15, go_sem, *]) rfl ?_
    rw [Hres.out]
    exact HWz.out.ends hlt
  · have hn0N : 0 < n := by omega
    have hn0' : ¬ ((n : Nat) : Int) = 0 := by omega
    have hd0 : decide (n = 0) = false := decide_eq_false hn0
    have HO := Lib.hid (one_any g r1 6 wa HWa.out.tape (by omega) (by omega))
    have Hbrk2 : Hid (res = if oneB r1 6 then (brkP ra (nx r1.tail n).toNat (nx r1.tail.tail 5), r1.tail.tail.tail) else (ra, r1.tail)) := Lib.hid (by rw [Hbrk.out, if_neg hn0])
    clear Hbrk
    generalize oneB r1 6 = y at *
    cases y
    case false =>
      have Hres : Hid (res = (ra, r1.tail)) := Lib.hid (by rw [Hbrk2.out]; rfl)
      clear Hbrk2
      go_upto_region 3 with (first
        | (go_at_call 45
           refine HO.out.mono ?_
           rintro e w2 ⟨rfl, ht2, hg2⟩
           have HW2 := Lib.hid (HWa.out.step hg2 hlt ht2)
           have c2 := ((hg2.block _ (by omega) (by intro e; injection e; omega)).trans Hca.out)
           have ca2 := cell_of_row w2 w1.heap.size 0 _ _ _ c2
           clear ht2 hg2 c2)
        | fail)
      have cE := HW2.out.c
      have fE := HW2.out.f
      have sE := HW2.out.same (.slice A1 n c1)
      go_wp2
      refine bodyPost_ret (v := .agg #[.slice A1 n c1]) (by simp [results, Tryz.results15, go_sem, *]) rfl ?_
      rw [Hres.out]
      exact HW2.out.ends hlt
    case true =>
      have hbk := nx_bd r1.tail n (by omega)
      have hbz := nx_bd r1.tail.tail 5 (by omega)
      have Hres : Hid (res = (brkP ra (nx r1.tail n).toNat (nx r1.tail.tail 5), r1.tail.tail.tail)) := Lib.hid (by rw [Hbrk2.out]; rfl)
      have HN1 := Lib.hid (fun W (hW : TapeAt W g r1.tail) => next_any g r1.tail n W hW (by omega))
      have HN2 := Lib.hid (fun W (hW : TapeAt W g r1.tail.tail) => next_any g r1.tail.tail 5 W hW (by omega))
      obtain ⟨k, hk⟩ := Int.eq_ofNat_of_zero_le hbk.1
      rw [hk] at Hres HN1 hbk
      clear Hbrk2 hk
      generalize nx r1.tail.tail 5 = z at *
      have hkn : k < n := by omega
      go_upto_region 5 with (first
        | (go_at_call 45
           refine HO.out.mono ?_
           rintro e w2 ⟨rfl, ht2, hg2⟩
           have HW2 := Lib.hid (HWa.out.step hg2 hlt ht2)
           have c2 := ((hg2.block _ (by omega) (by intro e; injection e; omega)).trans Hca.out)
           have ca2 := cell_of_row w2 w1.heap.size 0 _ _ _ c2
           have hs2 := hg2.size
           have ca3 : ∀ o, (w2.alloc o).cell? ⟨w1.heap.size, 0, none⟩ = some (.slice A1 n c1) := fun o => by rw [World.cell?_alloc_lt w2 o _ (show w1.heap.size < w2.heap.size by omega)]; exact ca2
           have HS2 : Hid (Reads w2 w2.heap.size 4 A1 n (rCells ra)) := Lib.hid (by
             obtain ⟨A', c', h1, h2, _, _⟩ := own_slice HW2.out.own
             injection h1 with h1 _ _
             subst h1
             rw [Hn.out] at h2
             exact h2.reads (by rw [rCells_len, Hn.out]))
           clear ht2 hg2 c2)
        | (at_builtin
           refine wpList_append_any _ rfl (.tmp 24) (.tmp 26) 23 rfl w2.heap.size 58 i0 _ 4 32 Tryz.underlying23 hi hz0 hz1 hz2 rfl (by omega) (.slice (some ⟨w2.heap.size, 0, none⟩) 0 0) 0 [] rfl (own_zero w2 _ _ _ (Nat.le_refl _)) w2.heap.size A1 n c1 (rCells ra) rfl (HS2.out.alloc (Nat.le_refl _) _) (rCells_one ra) (by simp only [maxLen]; omega) (by omega) (by simp) ?_
           intro v5 w5 hown5 hg5 hat5)
        | fail)
      simp only [Nat.zero_add, List.nil_append] at hown5
      have HW5 : Hid (BrkW w w5 g v5 ra r1.tail) := Lib.hid ((HW2.out.alloc hlt _).more hlt (by intro q hq; simp [Value.ownBlock] at hq; omega) hg5 (by have := own_rebase hown5 (base' := w.heap.size + 1) (by omega); rwa [Hn.out]))
      clear hg5 hat5 hown5 HW2 HS2 HWa HSa Hca
      obtain ⟨G, gc, rfl, hGb, hGl, _, _, _, _⟩ := own_at HW5.out.own (by rw [Hn.out]; omega)
      rw [Hn.out] at HW5 ⊢
      go_upto_region 6 with (first
        | (go_at_call 27
           refine (HN1.out _ HW5.out.tape).mono ?_
           rintro e w6 ⟨rfl, ht6, hg6⟩
           have HW6 := Lib.hid (HW5.out.step hg6 hlt ht6)
           clear ht6 hg6)
        | fail)
      go_upto_region 8 with (first
        | (go_at_call 27
           refine (HN2.out _ HW6.out.tape).mono ?_
           rintro e w7 ⟨rfl, ht7, hg7⟩
           have HW7 := Lib.hid (HW6.out.step hg7 hlt ht7)
           clear ht7 hg7)
        | fail)
      obtain ⟨G', gc', hGe, hGb7, hGl7, _, _, hcells, hfr⟩ := own_at HW7.out.own (by rw [Hn.out]; omega)
      rw [Hn.out] at hGe
      injection hGe with hGe _ hGc
      injection hGe with hGe
      injection hGe with hGe _ _
      subst hGe hGc
      have hkr : k < ra.length := by rw [Hn.out]; exact hkn
      have h0r : 0 < ra.length := by rw [Hn.out]; omega
      have Hown7 : Hid (w7.ownsRow (w.heap.size + 1) 58 4 (.slice (some ⟨G, 0, none⟩) n gc) n (rCells ra)) := Lib.hid (by have := HW7.out.own; rwa [Hn.out] at this)
      have hq := brk_some hkr
      have hp0 := brk_some h0r
      have HqOk : Hid (0 ≤ ra[k].l ∧ ra[k].l < ra[k].r ∧ ra[k].r ≤ 16384 ∧ 0 ≤ ra[k].b ∧ ra[k].b < ra[k].t ∧ ra[k].t ≤ 16384) := Lib.hid ((R4.ok_iff _).1 (List.all_eq_true.1 Hok.out _ (List.getElem_mem hkr)))
      obtain ⟨k1, k2, k3, k4⟩ := rCells_at ra k hkr
      obtain ⟨l1, l2, l3, l4⟩ := rCells_at ra 0 h0r
      have d1 := hcells _ _ k1
      have d2 := hcells _ _ k2
      have d3 := hcells _ _ k3
      have d4 := hcells _ _ k4
      have e1 := hfr (k * 4)
      have e2 := hfr (k * 4 + 1)
      have e3 := hfr (k * 4 + 2)
      have e4 := hfr (k * 4 + 3)
      have HC3 := Lib.hid (And.intro (And.intro (hcells _ _ l1) (hcells _ _ l2)) (And.intro (And.intro (hcells _ _ l3) (hcells _ _ l4)) (And.intro (And.intro (hfr 0) (hfr 1)) (And.intro (hfr 2) (hfr 3)))))
      have hkn2 : (k : Int) < (n : Int) := by omega
      have hk0 : (0 : Int) ≤ (k : Int) := by omega
      have hn00 : (0 : Int) < (n : Int) := by omega
      obtain ⟨q, hqq⟩ : ∃ q, ra[k] = q := ⟨_, rfl⟩
      have Hqq := Lib.hid hqq
      rw [hqq] at hq d1 d2 d3 d4 HqOk
      have hqr := HqOk.out
      have hwr : IntKind.i64.wrap (q.r + 1) = q.r + 1 := IntWalk.i64_in _ (by omega)
      clear hcells hfr k1 k2 k3 k4 l1 l2 l3 l4 hqq hqr HN1 HN2
      rcases (show z = 0 ∨ z = 1 ∨ z = 2 ∨ z = 3 ∨ z = 4 by omega) with rfl | rfl | rfl | rfl | rfl
      · skip
        have Hres2 : Hid (res = (ra.set k ⟨q.l, q.b, q.r + 1, q.t⟩, r1.tail.tail.tail)) := Lib.hid (by rw [Hres.out]; simp [brkP, hq])
        have Hset := Lib.hid (rCells_setR ra k hkr (q.r + 1))
        rw [Hqq.out] at Hset
        clear HC3
        go_upto_region 16 with fail
        obtain ⟨wx, hwx⟩ : ∃ wx : World, wx = w7.setCell ⟨G, k * 4 + 2, none⟩ (.int .i64 (q.r + 1)) := ⟨_, rfl⟩
        rw [← hwx]
        have HWx : Hid (BrkW w wx g (.slice (some ⟨G, 0, none⟩) n gc) (ra.set k ⟨q.l, q.b, q.r + 1, q.t⟩) r1.tail.tail.tail) := Lib.hid (by
          rw [hwx]
          refine HW7.out.turn hlt hGb (only_setCell (World.grownBy.refl _ _) (.inl rfl) _) ?_ (by rw [List.length_set, Hn.out])
          rw [Hset.out]
          exact own_setN Hown7.out _ _)
        clear hwx
        have cE := HWx.out.c
        have fE := HWx.out.f
        have sE := HWx.out.same (.slice (some ⟨G, 0, none⟩) n gc)
        go_wp2
        refine bodyPost_ret (v := .agg #[.slice (some ⟨G, 0, none⟩) n gc]) (by simp [results, Tryz.results15, go_sem, *]) rfl ?_
        rw [Hres2.out]
        exact HWx.out.ends hlt
      · skip
        have Hres2 : Hid (res = (ra.set k ⟨-1, q.b, q.r, q.t⟩, r1.tail.tail.tail)) := Lib.hid (by rw [Hres.out]; simp [brkP, hq])
        have Hset := Lib.hid (rCells_setL ra k hkr (-1))
        rw [Hqq.out] at Hset
        clear HC3
        go_upto_region 16 with fail
        obtain ⟨wx, hwx⟩ : ∃ wx : World, wx = w7.setCell ⟨G, k * 4, none⟩ (.int .i64 (-1)) := ⟨_, rfl⟩
        rw [← hwx]
        have HWx : Hid (BrkW w wx g (.slice (some ⟨G, 0, none⟩) n gc) (ra.set k ⟨-1, q.b, q.r, q.t⟩) r1.tail.tail.tail) := Lib.hid (by
          rw [hwx]
          refine HW7.out.turn hlt hGb (only_setCell (World.grownBy.refl _ _) (.inl rfl) _) ?_ (by rw [List.length_set, Hn.out])
          rw [Hset.out]
          exact own_setN Hown7.out _ _)
        clear hwx
        have cE := HWx.out.c
        have fE := HWx.out.f
        have sE := HWx.out.same (.slice (some ⟨G, 0, none⟩) n gc)
        go_wp2
        refine bodyPost_ret (v := .agg #[.slice (some ⟨G, 0, none⟩) n gc]) (by simp [results, Tryz.results15, go_sem, *]) rfl ?_
        rw [Hres2.out]
        exact HWx.out.ends hlt
      · have Hres2 : Hid (res = (ra ++ [q], r1.tail.tail.tail)) := Lib.hid (by rw [Hres.out]; simp [brkP, hq])
        clear HC3
        go_upto_region 16 with (first
          | (at_builtin
             refine wpList_append_any _ rfl (.tmp 61) (.tmp 66) _ rfl (w.heap.size + 1) 58 i0 _ 4 32 Tryz.underlying23 hi hz0 hz1 hz2 rfl (by omega) (.slice (some ⟨G, 0, none⟩) n gc) n (rCells ra) rfl
               (Hown7.out.alloc _) _ _ 1 1 [.int .i64 q.l, .int .i64 q.b, .int .i64 q.r, .int .i64 q.t] rfl ⟨rfl, fun _ => ⟨_, rfl, Nat.lt_succ_self _, fun j u hu => (by exact news_any _ _ _ j u hu)⟩⟩ (by simp [Value.oneCell']) (by simp only [maxLen]; omega) (by omega) (by simp; omega) ?_
             intro v8 w8 hown8 hg8 hat8)
          | fail)
        have HW8 : Hid (BrkW w w8 g v8 (ra ++ [q]) r1.tail.tail.tail) := Lib.hid ((HW7.out.alloc hlt _).more hlt (by intro x hx; simp [Value.ownBlock] at hx; omega) hg8 (by rw [List.length_append, rCells_snoc, Hn.out]; exact hown8))
        have hl8 : (ra ++ [q]).length = n + 1 := by rw [List.length_append, Hn.out]; rfl
        clear hg8 hat8 hown8
        obtain ⟨A8, c8, rfl, _, _, _⟩ := own_slice HW8.out.own
        rw [hl8] at HW8 ⊢
        have cE := HW8.out.c
        have fE := HW8.out.f
        have sE := HW8.out.same (.slice A8 (n + 1) c8)
        go_wp2
        refine bodyPost_ret (v := .agg #[.slice A8 (n + 1) c8]) (by simp [results, Tryz.results15, go_sem, *]) rfl ?_
        rw [Hres2.out]
        exact HW8.out.ends hlt
      · have Hres2 : Hid (res = ((ra.set 0 q).set k ra[0], r1.tail.tail.tail)) := Lib.hid (by rw [Hres.out]; simp [brkP, hq, hp0])
        obtain ⟨⟨l1, l2⟩, ⟨l3, l4⟩, ⟨m1, m2⟩, m3, m4⟩ := HC3.out
        obtain ⟨p, hp⟩ : ∃ p, ra[0] = p := ⟨_, rfl⟩
        rw [hp] at Hres2 l1 l2 l3 l4
        simp only [Nat.zero_mul, Nat.zero_add] at l1 l2 l3 l4
        have Hp0 := Lib.hid hp
        clear hp hp0 HC3
        by_cases hk00 : k = 0
        · subst hk00
          obtain rfl : q = p := by rw [← Hqq.out, ← Hp0.out]
          simp only [Nat.zero_mul, Nat.zero_add] at d1 d2 d3 d4 e1 e2 e3 e4
          go_upto_region 15 with fail
          go_region
          obtain ⟨wx, hwx⟩ : ∃ wx : World, wx = ((((((((w7.setCell ⟨G, 0, none⟩ (.int .i64 q.l)).setCell ⟨G, 1, none⟩ (.int .i64 q.b)).setCell ⟨G, 2, none⟩ (.int .i64 q.r)).setCell ⟨G, 3, none⟩ (.int .i64 q.t)).setCell ⟨G, 0, none⟩ (.int .i64 q.l)).setCell ⟨G, 1, none⟩ (.int .i64 q.b)).setCell ⟨G, 2, none⟩ (.int .i64 q.r)).setCell ⟨G, 3, none⟩ (.int .i64 q.t)).drew := ⟨_, rfl⟩
          rw [← hwx]
          have HWx : Hid (BrkW w wx g (.slice (some ⟨G, 0, none⟩) n gc) ((ra.set 0 q).set 0 q) r1.tail.tail.tail) := Lib.hid (by
            rw [hwx]
            refine World.drew_brk (HW7.out.turn hlt hGb (only4 (only4 (World.grownBy.refl _ _))) ?_ (by rw [List.length_set, List.length_set, Hn.out]))
            exact own_rect0 (own_rect0 Hown7.out h0r q) (by rw [List.length_set]; exact h0r) q)
          clear hwx
          have cE := HWx.out.c
          have fE := HWx.out.f
          have sE := HWx.out.same (.slice (some ⟨G, 0, none⟩) n gc)
          go_wp2
          refine bodyPost_ret (v := .agg #[.slice (some ⟨G, 0, none⟩) n gc]) (by simp [results, Tryz.results15, go_sem, *]) rfl ?_
          rw [Hres2.out]
          exact HWx.out.ends hlt
        · have hk01 : ¬ 0 = k := fun h => hk00 h.symm
          have hk1 : ¬ k * 4 = 1 := by omega
          have hk2 : ¬ k * 4 = 2 := by omega
          have hk3 : ¬ k * 4 = 3 := by omega
          have hk4 : ¬ 1 = k * 4 := by omega
          have hk5 : ¬ 2 = k * 4 := by omega
          have hk6 : ¬ 3 = k * 4 := by omega
          go_upto_region 15 with fail
          go_region
          obtain ⟨wx, hwx⟩ : ∃ wx : World, wx = ((((((((w7.setCell ⟨G, 0, none⟩ (.int .i64 q.l)).setCell ⟨G, 1, none⟩ (.int .i64 q.b)).setCell ⟨G, 2, none⟩ (.int .i64 q.r)).setCell ⟨G, 3, none⟩ (.int .i64 q.t)).setCell ⟨G, k * 4, none⟩ (.int .i64 p.l)).setCell ⟨G, k * 4 + 1, none⟩ (.int .i64 p.b)).setCell ⟨G, k * 4 + 2, none⟩ (.int .i64 p.r)).setCell ⟨G, k * 4 + 3, none⟩ (.int .i64 p.t)).drew := ⟨_, rfl⟩
          rw [← hwx]
          have HWx : Hid (BrkW w wx g (.slice (some ⟨G, 0, none⟩) n gc) ((ra.set 0 q).set k p) r1.tail.tail.tail) := Lib.hid (by
            rw [hwx]
            refine World.drew_brk (HW7.out.turn hlt hGb (only4 (only4 (World.grownBy.refl _ _))) ?_ (by rw [List.length_set, List.length_set, Hn.out]))
            exact own_rectB (own_rect0 Hown7.out h0r q) k (by rw [List.length_set]; exact hkr) p)
          clear hwx
          have cE := HWx.out.c
          have fE := HWx.out.f
          have sE := HWx.out.same (.slice (some ⟨G, 0, none⟩) n gc)
          go_wp2
          refine bodyPost_ret (v := .agg #[.slice (some ⟨G, 0, none⟩) n gc]) (by simp [results, Tryz.results15, go_sem, *]) rfl ?_
          rw [Hres2.out]
          exact HWx.out.ends hlt
      · skip
        have Hres2 : Hid (res = (ra.set k ⟨q.l, q.b, q.r, q.b⟩, r1.tail.tail.tail)) := Lib.hid (by rw [Hres.out]; simp [brkP, hq])
        have Hset := Lib.hid (rCells_setT ra k hkr (q.b))
        rw [Hqq.out] at Hset
        clear HC3
        go_upto_region 16 with fail
        obtain ⟨wx, hwx⟩ : ∃ wx : World, wx = w7.setCell ⟨G, k * 4 + 3, none⟩ (.int .i64 (q.b)) := ⟨_, rfl⟩
        rw [← hwx]
        have HWx : Hid (BrkW w wx g (.slice (some ⟨G, 0, none⟩) n gc) (ra.set k ⟨q.l, q.b, q.r, q.b⟩) r1.tail.tail.tail) := Lib.hid (by
          rw [hwx]
          refine HW7.out.turn hlt hGb (only_setCell (World.grownBy.refl _ _) (.inl rfl) _) ?_ (by rw [List.length_set, Hn.out])
          rw [Hset.out]
          exact own_setN Hown7.out _ _)
        clear hwx
        have cE := HWx.out.c
        have fE := HWx.out.f
        have sE := HWx.out.same (.slice (some ⟨G, 0, none⟩) n gc)
        go_wp2
        refine bodyPost_ret (v := .agg #[.slice (some ⟨G, 0, none⟩) n gc]) (by simp [results, Tryz.results15, go_sem, *]) rfl ?_
        rw [Hres2.out]
        exact HWx.out.ends hlt
end Go.Proofs.YtpcfhcdbibklcaaGreat

namespace Go.Proofs.YtpcfhcdbibklcaaGreat
open Go.RowKit Go.Shelf
set_option linter.unusedVariables false
set_option linter.unusedSimpArgs false

theorem own_takeN {w : World} {base : Nat} {e : TypeId} {n k c size : Nat} {A : Option Addr} {xs : List Value} (h : w.ownsRow base e size (.slice A n c) n xs) (hk : k ≤ n) : w.ownsRow base e size (.slice A k c) k (xs.take (k * size)) := by
  obtain ⟨h1, h2⟩ := h
  have hks : k * size ≤ n * size := Nat.mul_le_mul_right _ hk
  refine ⟨by rw [List.length_take]; omega, ?_⟩
  rcases h2 with ⟨h3, h4⟩ | ⟨g, cap, cur, h3, hb, hh, hnc, hcm, hs, ht⟩
  · injection h3 with e1 e2 e3
    subst e1 e3
    have : k = 0 := by omega
    subst this
    exact .inl ⟨rfl, rfl⟩
  · injection h3 with e1 e2 e3
    subst e1 e3
    refine .inr ⟨g, c, cur, rfl, hb, hh, by omega, hcm, hs, ?_⟩
    rw [← ht, List.take_take]
    congr 1
    omega
theorem pCells_take (l : List Pt) (k : Nat) : (pCells l).take (k * 2) = pCells (l.take k) := by
  rcases Nat.lt_or_ge l.length k with h | h
  · rw [List.take_of_length_le (by rw [pCells_len]; omega), List.take_of_length_le (by omega)]
  · have e2 : pCells l = pCells (l.take k) ++ pCells (l.drop k) := by rw [← pCells_app, List.take_append_drop]
    rw [e2, List.take_append_of_le_length (by rw [pCells_len, List.length_take]; omega), List.take_of_length_le (by rw [pCells_len, List.length_take]; omega)]
/-- What append leaves, and what it leaves alone. -/
theorem run_append_keep {P : Program} (w : World) (base : Nat) (t ty e : TypeId) (i : TypeInfo) (z : Value) (size bytes : Nat) (ht : P.underlying t = some (.slice e)) (hi : P.info? e = some i) (hz : i.zero = some z)
    (hsize : i.size = size) (hby : i.bytes = bytes) (hzs : z.cells.size = size) (hsz : 0 < size)
    (g n cap : Nat) (xs : List Value) (hown : w.ownsRow base e size (.slice (some ⟨g, 0, none⟩) n cap) n xs)
    (a : Addr) (m c : Nat) (news : List Value) (hl : news.length = m * size) (hnews : ∀ j u, news[j]? = some u → w.cell? (a.add j) = some u) (h1 : ∀ u ∈ news, u.oneCell' = true)
    (h63 : n + m ≤ maxLen) (hbytes : (n + m) * bytes ≤ 140737488355328) (hbase : base ≤ w.heap.size) :
    ∃ v' w', (Builtin.append_ #[t, t] ty #[.slice (some ⟨g, 0, none⟩) n cap, .slice (some a) m c]).run P w = .ok v' w' ∧ w'.ownsRow base e size v' (n + m) (xs ++ news) ∧ w.grownBy w' (some g) ∧
      ∀ j u, xs[j]? = some u → w'.cell? ⟨g, j, none⟩ = some u := by
  obtain ⟨v', w', hrun, h2, h3, _, h5⟩ := run_append_own_at (P := P) w base t ty e i z size bytes ht hi hz hsize hby hzs hsz _ n xs hown a m c news hl hnews h1 h63 hbytes hbase
  refine ⟨v', w', hrun, h2, h3, fun j u hu => ?_⟩
  have hold := hown.cells (g := g) rfl
  rcases hown.2 with ⟨h4, _⟩ | ⟨g', cap', cur, h4, hbg, hg, hnc, hcm, hcs, htake⟩
  · cases h4
  · injection h4 with e1 e2 e3
    injection e1 with e1
    injection e1 with e1
    subst e1 e3
    subst hsize
    by_cases hroom : n + m ≤ cap
    · have hfit : n * i.size + news.length ≤ cur.size := by rw [hl, hcs, ← Nat.add_mul]; exact Nat.mul_le_mul_right _ hroom
      have hr := run_append_room (P := P) w t ty e i ht hi g n cap cur hg a m c news hl hnews h1 hroom hfit
      rw [hrun] at hr
      injection hr with hr1 hr2
      subst hr1
      have := h2.cells (g := g) rfl j u (by rw [List.getElem?_append_left (by rcases Nat.lt_or_ge j xs.length with h | h; exact h; rw [List.getElem?_eq_none h] at hu; cases hu)]; exact hu)
      rw [add_none, Nat.zero_add] at this
      exact this
    · have hr := run_append_grow (P := P) w t ty e i z ht hi hz ⟨g, 0, none⟩ n cap xs hown.1 hold a m c news hl hnews (by omega) (by simp only [maxLen] at h63; omega) (by subst hby; exact growslice_fits (by omega) hbytes)
      rw [hrun] at hr
      injection hr with hr1 hr2
      have hc := hold j u hu
      rw [hr2]
      refine (World.cell?_alloc_some _ _ _ ?_).trans ?_
      · show (w.cell? ⟨g, j, none⟩).isSome = true
        have : w.cell? ⟨g, j, none⟩ = some u := by rw [add_none, Nat.zero_add] at hc; exact hc
        rw [this]; rfl
      · have : w.cell? ⟨g, j, none⟩ = some u := by rw [add_none, Nat.zero_add] at hc; exact hc
        exact this
/-- A ring on a small sheet. -/
def In8 (l : List Pt) : Prop := ∀ p ∈ l, 0 ≤ p.1 ∧ p.1 ≤ 7 ∧ 0 ≤ p.2 ∧ p.2 ≤ 7
structure Drw (w W : World) (g : Nat) (v : Value) (l : List Pt) (r : List Int) : Prop where
  own : W.ownsRow w.heap.size 43 2 v l.length (pCells l)
  tape : TapeAt W g r
  gr : w.grownBy W (some g)
  lt : g < w.heap.size
section
variable {w W W' : World} {g : Nat} {v v' : Value} {l l' : List Pt} {r r' : List Int}
theorem Drw.step (h : Drw w W g v l r) (hn : W.grownBy W' (some g)) (ht : TapeAt W' g r') : Drw w W' g v l r' :=
  ⟨ownsRow_only h.own hn h.lt, ht, only_trans h.gr hn, h.lt⟩
theorem Drw.app {row : Option Nat} {n : Nat} {xs : List Value} (h : Drw w W g v l r) (o : Obj) (hr : ∀ k, row = some k → w.heap.size ≤ k) (hg : (W.alloc o).grownBy W' row) (ho : W'.ownsRow w.heap.size 43 2 v' n xs) (hn : n = l'.length) (hx : xs = pCells l') : Drw w W' g v' l' r := by
  subst hn hx
  have hlt := h.lt
  exact ⟨ho, (h.tape.alloc o).grown hg (fun k hk => by have := hr k hk; omega), only_grown (only_alloc h.gr o) hg (fun k hk => by have := hr k hk; omega), hlt⟩
end
theorem In8.snoc {l : List Pt} {x y : Int} (h : In8 l) (hx : 0 ≤ x ∧ x ≤ 7) (hy : 0 ≤ y ∧ y ≤ 7) : In8 (l ++ [(x, y)]) := by
  intro p hp
  rcases List.mem_append.1 hp with hp | hp
  · exact h p hp
  · rw [List.mem_singleton.1 hp]; exact ⟨hx.1, hx.2, hy.1, hy.2⟩
def RingTPost (w : World) (g : Nat) (e : Ending) (w' : World) : Prop := ∃ v l r, e = .returned v ∧ Drw w w' g v l r ∧ In8 l ∧ l.length ≤ 11

set_option maxHeartbeats 0 in
set_option maxRecDepth 100000 in
theorem ringT_any (g : Nat) (r : List Int) (w : World) (ht : TapeAt w g r) : Calls Tryz.prog 16 #[.pointer (some ⟨g, 0, none⟩)] w (RingTPost w g) := by
  obtain ⟨i0, hi, hz0, hz1, hz2⟩ := info_parts Tryz.infoPoint
  have hlt := ht.lt
  have HNx : Hid (∀ (m : Int) r W, 1 ≤ m ∧ m ≤ 100 → TapeAt W g r → Calls Tryz.prog 27 #[.pointer (some ⟨g, 0, none⟩), .int .i64 m] W fun e w' => ∃ x : Int, e = .returned (.int .i64 x) ∧ (0 ≤ x ∧ x < m) ∧ TapeAt w' g r.tail ∧ W.grownBy w' (some g)) := Lib.hid (fun m r W hm h => (next_any g r m W h (by omega)).mono (fun e w' hp => ⟨nx r m, hp.1, nx_bd r m hm.1, hp.2.1, hp.2.2⟩))
  have HOne : Hid (∀ r W, TapeAt W g r → Calls Tryz.prog 45 #[.pointer (some ⟨g, 0, none⟩), .int .i64 2] W fun e w' => ∃ x : Bool, e = .returned (.bool x) ∧ TapeAt w' g r.tail ∧ W.grownBy w' (some g)) := Lib.hid (fun r W h => (one_any g r 2 W h (by omega) (by omega)).mono (fun e w' hp => ⟨_, hp.1, hp.2.1, hp.2.2⟩))
  have HD : Hid (Drw w w g (.slice none 0 0) [] r) := Lib.hid ⟨World.ownsRow_nil _ _ _ _, ht, World.grownBy.refl _ _, hlt⟩
  clear ht
  go_enter Tryz.func16, Tryz.ntmps16
  go_upto_region 3 with (first
    | (go_at_call 27
       refine (HNx.out 8 _ _ ⟨by omega, by omega⟩ HD.out.tape).mono ?_
       rintro e w1 ⟨x, rfl, hx, ht1, hg1⟩
       have HD := Lib.hid (HD.out.step hg1 ht1)
       clear ht1 hg1)
    | fail)
  go_upto_region 4 with (first
    | (go_at_call 27
       refine (HNx.out 5 _ _ ⟨by omega, by omega⟩ HD.out.tape).mono ?_
       rintro e w2 ⟨n, rfl, hn, ht1, hg1⟩
       have HD := Lib.hid (HD.out.step hg1 ht1)
       clear ht1 hg1)
    | fail)
  go_wp2
  go_loopw [3, 4, 5, 6] (fun ov xv yv nv wr => ∃ (x y n : Int) (l : List Pt) (r : List Int), xv = .int .i64 x ∧ yv = .int .i64 y ∧ nv = .int .i64 n ∧ (0 ≤ x ∧ x ≤ 7) ∧ (0 ≤ y ∧ y ≤ 7) ∧ (-1 ≤ n ∧ n ≤ 4) ∧ (l.length : Int) + 2 * n ≤ 8 ∧ In8 l ∧ Hid (Drw w wr g ov l r)) (fun _ _ _ nv _ => (intOf nv + 1).toNat)
  case atStart => exact ⟨_, _, _, [], _, rfl, rfl, rfl, by omega, by omega, by omega, by simp; omega, by simp [In8], HD⟩
  case round =>
    obtain ⟨x, y, n, l, r1, rfl, rfl, rfl, hx, hy, hn, hlen, h8, HD⟩ := hrel
    have H8 := Lib.hid h8
    clear h8
    have hsz := HD.out.gr.size
    by_cases hn0 : 0 ≤ n
    · have hw1 : IntKind.i64.wrap (n - 1) = n - 1 := IntWalk.i64_in _ (by omega)
      go_upto_region 7 with (first
        | (at_builtin
           go_loud (refine wpList_append_any _ rfl (.tmp 17) (.tmp 21) _ rfl w.heap.size 43 i0 _ 2 16 Tryz.underlying40 hi hz0 hz1 hz2 rfl (by omega) _ l.length (pCells l) rfl (HD.out.own.alloc _) _ _ 1 1 [.int .i64 x, .int .i64 y] rfl ⟨rfl, fun _ => ⟨_, rfl, Nat.lt_succ_self _, fun j u hu => (by exact news_any _ _ _ j u hu)⟩⟩ (by simp [Value.oneCell']) (by simp only [maxLen]; omega) (by omega) (by simp; omega) ?_)
           intro v5 w5 hown5 hg5 hat5
           have HD := Lib.hid (HD.out.app (l' := l ++ [(x, y)]) _ (own_base HD.out.own) hg5 hown5 (by simp) (by rw [pCells_app]; rfl))
           clear hown5 hg5 hat5)
        | fail)
      have hsz := HD.out.gr.size
      have hl1 : (l ++ [(x, y)]).length = l.length + 1 := by simp
      go_upto_region 8 with (first
        | (go_at_call 27
           refine (HNx.out 8 _ _ ⟨by omega, by omega⟩ HD.out.tape).mono ?_
           rintro e w6 ⟨x1, rfl, hx1, ht1, hg1⟩
           have HD := Lib.hid (HD.out.step hg1 ht1)
           have hsz := HD.out.gr.size
           clear ht1 hg1)
        | fail)
      go_upto_region 9 with (
          (at_builtin
           go_loud (refine wpList_append_any _ rfl (.tmp 25) (.tmp 29) _ rfl w.heap.size 43 i0 _ 2 16 Tryz.underlying40 hi hz0 hz1 hz2 rfl (by omega) _ (l ++ [(x, y)]).length (pCells (l ++ [(x, y)])) rfl (HD.out.own.alloc _) _ _ 1 1 [.int .i64 x1, .int .i64 y] rfl ⟨rfl, fun _ => ⟨_, rfl, Nat.lt_succ_self _, fun j u hu => (by exact news_any _ _ _ j u hu)⟩⟩ (by simp [Value.oneCell']) (by simp only [maxLen]; omega) (by omega) (by simp; omega) ?_)
           intro v7 w7 hown7 hg7 hat7
           have HD := Lib.hid (HD.out.app (l' := (l ++ [(x, y)]) ++ [(x1, y)]) _ (own_base HD.out.own) hg7 hown7 (by simp) (pCells_app (l ++ [(x, y)]) [(x1, y)]).symm)
           clear hown7 hg7 hat7))
      go_upto_region 5 with (first
        | (go_at_call 27
           refine (HNx.out 8 _ _ ⟨by omega, by omega⟩ HD.out.tape).mono ?_
           rintro e w8 ⟨y1, rfl, hy1, ht1, hg1⟩
           have HD := Lib.hid (HD.out.step hg1 ht1)
           clear ht1 hg1)
        | fail)
      go_wp2
      go_roundw
      case rel => exact ⟨_, _, n - 1, (l ++ [(x, y)]) ++ [(x1, y)], _, rfl, rfl, rfl, by omega, by omega, by omega, by simp; omega, (H8.out.snoc hx hy).snoc (by omega) hy, HD⟩
      case measure => simp [intOf]; omega
    · obtain rfl : n = -1 := by omega
      obtain ⟨A, c, rfl, hlie, hnc, hcm⟩ := own_slice HD.out.own
      obtain ⟨N, hN⟩ : ∃ N, l.length = N := ⟨_, rfl⟩
      have HN := Lib.hid hN
      rw [hN] at hnc hlen HD ⊢
      clear hlie
      have hll : (N : Int) ≤ 10 := by omega
      clear hN
      by_cases h2 : (2 : Int) < (N : Int)
      · go_upto_region 11 with (first
          | (go_at_call 45
             refine (HOne.out _ _ HD.out.tape).mono ?_
             rintro e w2 ⟨b, rfl, ht1, hg1⟩
             have HD := Lib.hid (HD.out.step hg1 ht1)
             clear ht1 hg1
             rcases b with _ | _)
          | fail)
        · go_wp2
          refine bodyPost_ret (v := .slice A N c) (by simp [results, Tryz.results16, go_sem, *]) rfl ?_
          exact ⟨_, l, _, rfl, HD.out, H8.out, by have := HN.out; omega⟩
        · obtain ⟨k, hk⟩ : ∃ k, N = k + 2 := ⟨N - 2, by omega⟩
          obtain ⟨k1, hk1⟩ : ∃ k1, k1 = k + 1 := ⟨_, rfl⟩
          have hN1 : IntKind.i64.wrap ((N : Int) - 1) = (k1 : Int) := by rw [IntWalk.i64_in _ (by omega)]; omega
          have hN2 : IntKind.i64.wrap ((N : Int) - 2) = (k : Int) := by rw [IntWalk.i64_in _ (by omega)]; omega
          have hkl : k < l.length := by have := HN.out; omega
          have h0l : 0 < l.length := by omega
          have hown := HD.out.own
          rw [HN.out] at hown
          obtain ⟨G, rfl⟩ : ∃ G, A = some ⟨G, 0, none⟩ := by
            rcases hown.2 with ⟨_, h⟩ | ⟨G, _, _, h, _⟩
            · omega
            · injection h with h
              exact ⟨G, h⟩
          have hsz := HD.out.gr.size
          have hfit := (SlPt.mk HN.out hnc hcm (Lies.of_own hown) : SlPt w2 _ N c l)
          obtain ⟨_, _, e1, hGb, p0, _⟩ := hfit.at k hkl
          obtain ⟨_, _, e2, _, q0, _⟩ := hfit.at 0 h0l
          injection e1 with e1
          injection e1 with e1 e1'
          subst e1 e1'
          injection e2 with e2
          injection e2 with e2 e2'
          subst e2 e2'
          simp only [Nat.zero_add, Nat.zero_mul] at p0 q0
          have hat := pCells_at l k hkl
          have hat0 := pCells_at l 0 h0l
          have hpk := H8.out _ (List.getElem_mem hkl)
          have hp0 := H8.out _ (List.getElem_mem h0l)
          generalize l[k] = pk at *
          generalize l[0] = pz at *
          obtain ⟨ax, ay⟩ := pk
          obtain ⟨bx, by'⟩ := pz
          dsimp only at *
          have hk1c : (k1 : Int) ≤ (c : Int) := by omega
          have hk10 : (0 : Int) ≤ (k1 : Int) := by omega
          have hk0 : (0 : Int) ≤ (k : Int) := by omega
          have hkN : (k : Int) < (N : Int) := by omega
          have h0N : (0 : Int) < (N : Int) := by omega
          have h0N' : 0 < N := by omega
          have Ht : Hid (w2.ownsRow w.heap.size 43 2 (.slice (some ⟨G, 0, none⟩) k1 c) k1 (pCells (l.take k1))) := Lib.hid (by rw [← pCells_take]; exact own_takeN hown (by omega))
          have HSb : Hid (∀ wy, Below w2.heap.size w2 wy → wy.cell? ⟨G, k * 2, none⟩ = some (.int .i64 ax) ∧ wy.cell? ⟨G, 0, none⟩ = some (.int .i64 bx)) := Lib.hid (fun wy hy => ⟨(hy.cell (p := ⟨G, k * 2, none⟩) hGb).trans p0, (hy.cell (p := ⟨G, 0, none⟩) hGb).trans q0⟩)
          have hk1s : k1 ≤ 9 := by omega
          have HK := Lib.hid hk
          have HK1 := Lib.hid hk1
          clear p0 q0 hown hfit hk hk1
          refine wp_region_noPanic ?_
          refine wp_region_held_drew (S := fun wy => wy.cell? ⟨G, k * 2, none⟩ = some (.int .i64 ax) ∧ wy.cell? ⟨G, 0, none⟩ = some (.int .i64 bx)) (by kernel_rfl) (HSb.out _ (by repeat' (first | with_reducible exact Below.refl _ _ | with_reducible refine below_drewN ?_ _ | with_reducible refine Below.drew ?_ | with_reducible refine Below.alloc ?_ ?_ _ | with_reducible refine Below.setCell ?_ ?_ _ | with_reducible refine Below.trans ?_ (Below.mono (by with_reducible assumption) ?_) | (simp; done) | (simp; omega) | omega))) (fun hHeld => ?_)
          refine wpAnyH_take (i := 0) (v := ?vva0) rfl (by kernel_rfl) (by kernel_rfl) (by kernel_rfl) (fun _ _ _ h => h) (Or.inl ⟨by rfl, ?hya0⟩) hHeld ?resta0; (case hya0 => (intro w hSw; (try dsimp only at hSw); go_simp; all_goals (with_reducible rfl))); simp only [Act.put, List.setIfInBounds_toArray, List.set_cons_zero, List.set_cons_succ]
          refine wpAnyH_take (i := 1) (v := ?vva1) rfl (by kernel_rfl) (by kernel_rfl) (by kernel_rfl) (fun _ _ _ h => h) (Or.inl ⟨by rfl, ?hya1⟩) hHeld ?resta1; (case hya1 => (intro w hSw; (try dsimp only at hSw); go_simp; all_goals (with_reducible rfl))); simp only [Act.put, List.setIfInBounds_toArray, List.set_cons_zero, List.set_cons_succ]
          refine wpAnyH_take (i := 2) (v := ?vva2) rfl (by kernel_rfl) (by kernel_rfl) (by kernel_rfl) (fun _ _ _ h => h) (Or.inl ⟨by rfl, ?hya2⟩) hHeld ?resta2; (case hya2 => (intro w hSw; (try dsimp only at hSw); go_simp; all_goals (with_reducible rfl))); simp only [Act.put, List.setIfInBounds_toArray, List.set_cons_zero, List.set_cons_succ]
          refine wpAnyH_take (i := 3) (v := ?vva3) rfl (by kernel_rfl) (by kernel_rfl) (by kernel_rfl) (fun _ _ _ h => h) (Or.inl ⟨by rfl, ?hya3⟩) hHeld ?resta3; (case hya3 => (intro w hSw; (try dsimp only at hSw); go_simp; all_goals (with_reducible rfl))); simp only [Act.put, List.setIfInBounds_toArray, List.set_cons_zero, List.set_cons_succ]
          refine wpAnyH_take (i := 4) (v := ?vva4) rfl (by kernel_rfl) (by kernel_rfl) (by kernel_rfl) (fun _ _ _ h => h) (Or.inl ⟨by rfl, ?hya4⟩) hHeld ?resta4; (case hya4 => (intro w hSw; (try dsimp only at hSw); go_simp; all_goals (with_reducible rfl))); simp only [Act.put, List.setIfInBounds_toArray, List.set_cons_zero, List.set_cons_succ]
          refine wpAnyH_take (i := 5) (v := ?vva5) rfl (by kernel_rfl) (by kernel_rfl) (by kernel_rfl) (fun _ _ _ h => h) (Or.inl ⟨by rfl, ?hya5⟩) hHeld ?resta5; (case hya5 => (intro w hSw; (try dsimp only at hSw); go_simp; all_goals (with_reducible rfl))); simp only [Act.put, List.setIfInBounds_toArray, List.set_cons_zero, List.set_cons_succ]
          refine wpAnyH_take (i := 6) (v := ?vva6) rfl (by kernel_rfl) (by kernel_rfl) (by kernel_rfl) (fun _ _ _ h => h) (Or.inl ⟨by rfl, ?hya6⟩) hHeld ?resta6; (case hya6 => (intro w hSw; (try dsimp only at hSw); go_simp; all_goals (with_reducible rfl))); simp only [Act.put, List.setIfInBounds_toArray, List.set_cons_zero, List.set_cons_succ]
          refine wpAnyH_take (i := 7) (v := ?vva7) rfl (by kernel_rfl) (by kernel_rfl) (by kernel_rfl) (fun _ _ _ h => h) (Or.inl ⟨by rfl, ?hya7⟩) hHeld ?resta7; (case hya7 => (intro w hSw; (try dsimp only at hSw); go_simp; all_goals (with_reducible rfl))); simp only [Act.put, List.setIfInBounds_toArray, List.set_cons_zero, List.set_cons_succ]
          refine wpAnyH_take (i := 8) (v := ?vva8) rfl (by kernel_rfl) (by kernel_rfl) (by kernel_rfl) (fun _ _ _ h => h) (Or.inl ⟨by rfl, ?hya8⟩) hHeld ?resta8; (case hya8 => (intro w hSw; (try dsimp only at hSw); go_simp; all_goals (with_reducible rfl))); simp only [Act.put, List.setIfInBounds_toArray, List.set_cons_zero, List.set_cons_succ]
          refine wpAnyH_take (i := 9) (v := ?vva9) rfl (by kernel_rfl) (by kernel_rfl) (by kernel_rfl) (fun _ _ _ h => h) (Or.inl ⟨by rfl, ?hya9⟩) hHeld ?resta9; (case hya9 => (intro w hSw; (try dsimp only at hSw); go_simp; all_goals (with_reducible rfl))); simp only [Act.put, List.setIfInBounds_toArray, List.set_cons_zero, List.set_cons_succ]
          refine wpAnyH_take (i := 10) (v := ?vva10) rfl (by kernel_rfl) (by kernel_rfl) (by kernel_rfl) (fun _ _ _ h => h) (Or.inl ⟨by rfl, ?hya10⟩) hHeld ?resta10; (case hya10 => (intro w hSw; (try dsimp only at hSw); go_simp; all_goals (with_reducible rfl))); simp only [Act.put, List.setIfInBounds_toArray, List.set_cons_zero, List.set_cons_succ]
          refine wpAnyH_take (i := 11) (v := ?vva11) rfl (by kernel_rfl) (by kernel_rfl) (by kernel_rfl) (fun _ _ _ h => h) (Or.inl ⟨by rfl, ?hya11⟩) hHeld ?resta11; (case hya11 => (intro w hSw; (try dsimp only at hSw); go_simp; all_goals (with_reducible rfl))); simp only [Act.put, List.setIfInBounds_toArray, List.set_cons_zero, List.set_cons_succ]
          refine wpAnyH_take (i := 12) (v := ?vva12) rfl (by kernel_rfl) (by kernel_rfl) (by kernel_rfl) (fun _ _ _ h => h) (Or.inl ⟨by rfl, ?hya12⟩) hHeld ?resta12; (case hya12 => (intro w hSw; (try dsimp only at hSw); go_simp; all_goals (with_reducible rfl))); simp only [Act.put, List.setIfInBounds_toArray, List.set_cons_zero, List.set_cons_succ]
          refine wpAnyH_take (i := 13) (v := ?vva13) rfl (by kernel_rfl) (by kernel_rfl) (by kernel_rfl) (fun _ _ _ h => h) (Or.inl ⟨by rfl, ?hya13⟩) hHeld ?resta13; (case hya13 => (intro w hSw; (try dsimp only at hSw); go_simp; all_goals (with_reducible rfl))); simp only [Act.put, List.setIfInBounds_toArray, List.set_cons_zero, List.set_cons_succ]
          refine wpAnyH_take (i := 14) (v := ?vva14) rfl (by kernel_rfl) (by kernel_rfl) (by kernel_rfl) (fun _ _ _ h => h) (Or.inl ⟨by rfl, ?hya14⟩) hHeld ?resta14; (case hya14 => (intro w hSw; (try dsimp only at hSw); go_simp; all_goals (with_reducible rfl))); simp only [Act.put, List.setIfInBounds_toArray, List.set_cons_zero, List.set_cons_succ]
          refine wpAnyH_take (i := 15) (v := ?vva15) rfl (by kernel_rfl) (by kernel_rfl) (by kernel_rfl) (fun _ _ _ h => h) (Or.inl ⟨by rfl, ?hya15⟩) hHeld ?resta15; (case hya15 => (intro w hSw; (try dsimp only at hSw); go_simp; all_goals (with_reducible rfl))); simp only [Act.put, List.setIfInBounds_toArray, List.set_cons_zero, List.set_cons_succ]
          refine wpAnyH_take (i := 16) (v := ?vva16) rfl (by kernel_rfl) (by kernel_rfl) (by kernel_rfl) (fun _ _ _ h => h) (Or.inl ⟨by rfl, ?hya16⟩) hHeld ?resta16; (case hya16 => (intro w hSw; (try dsimp only at hSw); go_simp; all_goals (with_reducible rfl))); simp only [Act.put, List.setIfInBounds_toArray, List.set_cons_zero, List.set_cons_succ]
          refine wpAnyH_take (i := 17) (v := ?vva17) rfl (by kernel_rfl) (by kernel_rfl) (by kernel_rfl) (fun _ _ _ h => h) (Or.inl ⟨by rfl, ?hya17⟩) hHeld ?resta17; (case hya17 => (intro w hSw; (try dsimp only at hSw); go_simp; all_goals (with_reducible rfl))); simp only [Act.put, List.setIfInBounds_toArray, List.set_cons_zero, List.set_cons_succ]
          refine wpAnyH_take (i := 18) (v := ?vva18) rfl (by kernel_rfl) (by kernel_rfl) (by kernel_rfl) (fun _ _ _ h => h) (Or.inl ⟨by rfl, ?hya18⟩) hHeld ?resta18; (case hya18 => (intro w hSw; (try dsimp only at hSw); go_simp; all_goals (with_reducible rfl))); simp only [Act.put, List.setIfInBounds_toArray, List.set_cons_zero, List.set_cons_succ]
          refine wpAnyH_take (i := 19) (v := ?vva19) rfl (by kernel_rfl) (by kernel_rfl) (by kernel_rfl) (fun _ _ _ h => h) (Or.inl ⟨by rfl, ?hya19⟩) hHeld ?resta19; (case hya19 => (intro w hSw; (try dsimp only at hSw); go_simp; all_goals (with_reducible rfl))); simp only [Act.put, List.setIfInBounds_toArray, List.set_cons_zero, List.set_cons_succ]
          refine wpAnyH_ready (rs := [20]) (by kernel_rfl) (by simp) ?_; refine AllReadyH.cons rfl (fun K hK => ?_) AllReadyH.nil
          go_simp
          obtain ⟨w3, hw3⟩ : ∃ w3 : World, w3 = (w2.alloc (.cells #[.int .i64 ax, .int .i64 y, .int .i64 bx, .int .i64 y] 43)).drew := ⟨_, rfl⟩
          rw [← hw3]
          have hHeld3 : w3.cell? ⟨G, k * 2, none⟩ = some (.int .i64 ax) ∧ w3.cell? ⟨G, 0, none⟩ = some (.int .i64 bx) := by rw [hw3]; exact HSb.out _ (by repeat' (first | with_reducible exact Below.refl _ _ | with_reducible refine below_drewN ?_ _ | with_reducible refine Below.drew ?_ | with_reducible refine Below.alloc ?_ ?_ _ | with_reducible refine Below.setCell ?_ ?_ _ | with_reducible refine Below.trans ?_ (Below.mono (by with_reducible assumption) ?_) | (simp; done) | (simp; omega) | omega))
          refine hK.out _ _ hHeld3 (fun hHeld => ?_)
          clear hK K
          (try simp only [Act.put, List.setIfInBounds_toArray, List.set_cons_zero, List.set_cons_succ])
          obtain ⟨v', w4, hrun, hown4, hg4, hkeep⟩ := run_append_keep (P := Tryz.prog) w3 w.heap.size 40 40 43 i0 _ 2 16 Tryz.underlying40 hi hz0 hz1 hz2 rfl (by omega) G k1 c _ (by rw [hw3]; exact (Ht.out.alloc _).drew) ⟨w2.heap.size, 0, none⟩ 2 2 [.int .i64 ax, .int .i64 y, .int .i64 bx, .int .i64 y] rfl (fun j u hu => by rw [hw3]; exact news_any w2 _ _ j u hu) (by simp [Value.oneCell']) (by simp only [maxLen]; omega) (by omega) (by rw [hw3]; simp; omega)
          have hHeld4 : w4.cell? ⟨G, k * 2, none⟩ = some (.int .i64 ax) ∧ w4.cell? ⟨G, 0, none⟩ = some (.int .i64 bx) := by
            have e := HK1.out
            refine ⟨hkeep _ _ ?_, hkeep _ _ ?_⟩
            · rw [← pCells_take, List.getElem?_take_of_lt (by omega)]; exact hat.1
            · rw [← pCells_take, List.getElem?_take_of_lt (by omega)]; simpa using hat0.1
          have hD4 : Drw w w4 g v' (l.take k1 ++ [(ax, y), (bx, y)]) r1.tail := by
            rw [hw3] at hg4
            exact Drw.app (v := .slice (some ⟨G, 0, none⟩) k1 c) (l := l.take k1) (W := w2) ⟨by rw [List.length_take, Nat.min_eq_left (by have := HK1.out; have := HK.out; have := HN.out; omega)]; exact Ht.out, HD.out.tape, HD.out.gr, hlt⟩ _ (fun q hq => by have hb := own_base Ht.out q (by rw [← hq]; rfl); exact hb) ⟨hg4.os, hg4.tape, hg4.output, hg4.size, hg4.block⟩ hown4 (by rw [List.length_append, List.length_take, Nat.min_eq_left (by have := HK1.out; have := HK.out; have := HN.out; omega)]; rfl) (by rw [pCells_app]; rfl)
          refine wpAnyH_ready (rs := [21]) (by kernel_rfl) (by simp) ?_; refine AllReadyH.cons rfl (fun K hK => ?_) AllReadyH.nil
          refine step_append_run rfl (.tmp 44) (.tmp 60) 40 rfl _ _ _ _ rfl rfl hrun ?_
          refine hK.out _ _ hHeld4 (fun hHeld => ?_)
          clear hK K
          (try simp only [Act.put, List.setIfInBounds_toArray, List.set_cons_zero, List.set_cons_succ])
          refine wpAnyH_take (i := 22) (v := ?vvb22) rfl (by kernel_rfl) (by kernel_rfl) (by kernel_rfl) (fun _ _ _ h => h) (Or.inl ⟨by rfl, ?hyb22⟩) hHeld ?restb22; (case hyb22 => (intro w hSw; (try dsimp only at hSw); go_simp; all_goals (with_reducible rfl))); simp only [Act.put, List.setIfInBounds_toArray, List.set_cons_zero, List.set_cons_succ]
          refine wpAnyH_done (by kernel_rfl) ?_ _
          refine NoPanic.normal ?_
          go_wp2
          refine bodyPost_ret (v := v') (by simp [results, Tryz.results16, go_sem, *]) rfl ?_
          exact ⟨_, _, _, rfl, hD4, fun p hp => by
            rcases List.mem_append.1 hp with hp | hp
            · exact H8.out p (List.mem_of_mem_take hp)
            · simp only [List.mem_cons, List.not_mem_nil, or_false] at hp
              rcases hp with rfl | rfl
              · exact ⟨hpk.1, hpk.2.1, hy.1, hy.2⟩
              · exact ⟨hp0.1, hp0.2.1, hy.1, hy.2⟩, by
            have e1 := HK.out
            have e2 := HK1.out
            rw [List.length_append, List.length_take]
            simp
            omega⟩
      · go_wp2_with (first
          | (go_at_call 45
             refine (HOne.out _ _ HD.out.tape).mono ?_
             rintro e w2 ⟨b, rfl, ht1, hg1⟩
             have HD := Lib.hid (HD.out.step hg1 ht1)
             clear ht1 hg1
             rcases b with _ | _)
          | fail)
        all_goals refine bodyPost_ret (v := .slice A N c) (by simp [results, Tryz.results16, go_sem, *]) rfl ?_
        all_goals exact ⟨_, l, _, rfl, HD.out, H8.out, by have := HN.out; omega⟩
end Go.Proofs.YtpcfhcdbibklcaaGreat

namespace Go.Proofs.YtpcfhcdbibklcaaGreat
open Go.RowKit Go.Shelf
set_option linter.unusedVariables false
set_option linter.unusedSimpArgs false

theorem at0_congr (r : List Pt) {a b : Nat} (h : a % r.length = b % r.length) : at0 r a = at0 r b := by
  unfold at0 atC
  rw [h]
/-- All turns of a ring are right ones. -/
def Gd (r : List Pt) : Prop := ∀ i, rightP (at0 r i) (at0 r (i + 1)) = true ∧ levP (at0 r i) (at0 r (i + 1)) ≠ levP (at0 r (i + 1)) (at0 r (i + 2))
theorem fine_gd {r : List Pt} (h : 0 < r.length) : (List.range r.length).all (fineAt r) = true ↔ Gd r := by
  have hper : ∀ i, fineAt r i = fineAt r (i % r.length) := fun i => by
    have e0 : at0 r (i % r.length) = at0 r i := at0_mod r i
    have e1 : at0 r (i % r.length + 1) = at0 r (i + 1) := at0_congr r (by rw [Nat.mod_add_mod])
    have e2 : at0 r (i % r.length + r.length - 1) = at0 r (i + r.length - 1) := by
      rw [Nat.add_sub_assoc h, Nat.add_sub_assoc h]
      exact at0_congr r (by rw [Nat.mod_add_mod])
    have e3 : at0 r (i % r.length + r.length) = at0 r (i + r.length) := at0_congr r (by rw [Nat.mod_add_mod])
    unfold fineAt
    rw [e0, e1, e2, e3]
  rw [List.all_eq_true]
  constructor
  · intro ha i
    have hf : ∀ j, fineAt r j = true := fun j => by rw [hper]; exact ha _ (List.mem_range.2 (Nat.mod_lt j h))
    have h1 := hf i
    have h2 := hf (i + 1)
    unfold fineAt at h1 h2
    rw [Bool.and_eq_true] at h1 h2
    have e1 : at0 r (i + 1 + r.length - 1) = at0 r i := by rw [show i + 1 + r.length - 1 = i + r.length by omega]; exact at0_add r i
    have e2 : at0 r (i + 1 + r.length) = at0 r (i + 1) := at0_add r (i + 1)
    rw [e1, e2] at h2
    refine ⟨h1.1, fun e => ?_⟩
    have := h2.2
    rw [bne_iff_ne] at this
    exact this e.symm
  · intro hg i hi
    have e1 : at0 r (i + r.length - 1 + 1) = at0 r (i + r.length) := by rw [Nat.sub_add_cancel (by omega)]
    have e2 : at0 r (i + r.length - 1 + 2) = at0 r (i + 1) := by rw [show i + r.length - 1 + 2 = i + 1 + r.length by omega]; exact at0_add r (i + 1)
    have h1 := hg i
    have h2 := hg (i + r.length - 1)
    rw [e1, e2, at0_add] at h2
    unfold fineAt
    rw [Bool.and_eq_true, bne_iff_ne, at0_add]
    exact ⟨h1.1, fun e => h2.2 e.symm⟩
end Go.Proofs.YtpcfhcdbibklcaaGreat

namespace Go.Proofs.YtpcfhcdbibklcaaGreat
open Go.RowKit Go.Shelf
set_option linter.unusedVariables false
set_option linter.unusedSimpArgs false

end Go.Proofs.YtpcfhcdbibklcaaGreat
namespace Go.Proofs.YtpcfhcdbibklcaaGreat
open Go.RowKit Go.Shelf
set_option linter.unusedVariables false
set_option linter.unusedSimpArgs false

def lvlR (p q : Pt) : Bool := decide (p.2 = q.2) && !decide (p.1 = q.1)
def uprR (p q : Pt) : Bool := decide (p.1 = q.1) && !decide (p.2 = q.2)
/-- What the reference finds wrong at an edge. -/
def badB (e d l u : Bool) : Bool := (e && (l != d)) || (!e && (u != d)) || (!l && !u)
def badR (r : List Pt) (i : Nat) : Bool := badB (decide (i % 2 = 0)) (levP (at0 r 0) (at0 r 1)) (lvlR (at0 r i) (at0 r (i + 1))) (uprR (at0 r i) (at0 r (i + 1)))
theorem lv_right {p q : Pt} (h : rightP p q = true) : lvlR p q = levP p q ∧ uprR p q = !levP p q := by
  unfold rightP at h
  unfold lvlR uprR levP
  generalize decide (p.1 = q.1) = a at *
  generalize decide (p.2 = q.2) = b at *
  revert h
  revert a b
  decide
theorem right_lv {p q : Pt} (h : (!lvlR p q && !uprR p q) = false) : rightP p q = true ∧ lvlR p q = levP p q ∧ uprR p q = !levP p q := by
  unfold lvlR uprR at h
  unfold lvlR uprR levP rightP
  generalize decide (p.1 = q.1) = a at *
  generalize decide (p.2 = q.2) = b at *
  revert h
  revert a b
  decide
theorem gd_lev {r : List Pt} (hg : Gd r) : ∀ i, levP (at0 r i) (at0 r (i + 1)) = (levP (at0 r 0) (at0 r 1) == decide (i % 2 = 0))
  | 0 => by simp
  | i + 1 => by
    have ih := gd_lev hg i
    have h := (hg i).2
    have e : decide ((i + 1) % 2 = 0) = !decide (i % 2 = 0) := by
      rw [← decide_not]
      exact decide_eq_decide.2 (by omega)
    rw [e]
    rw [ih] at h
    clear e ih
    generalize levP (at0 r (i + 1)) (at0 r (i + 1 + 1)) = x at *
    generalize levP (at0 r 0) (at0 r 1) = d at *
    generalize decide (i % 2 = 0) = b at *
    revert h
    revert x d b
    decide
theorem gd_even {r : List Pt} (h : 0 < r.length) (hg : Gd r) : r.length % 2 = 0 := by
  have h1 := gd_lev hg r.length
  have e0 : at0 r r.length = at0 r 0 := by have := at0_add r 0; rwa [Nat.zero_add] at this
  have e1 : at0 r (r.length + 1) = at0 r 1 := by have := at0_add r 1; rwa [Nat.add_comm] at this
  rw [e0, e1] at h1
  rcases Nat.mod_two_eq_zero_or_one r.length with h2 | h2
  · exact h2
  · rw [h2] at h1
    simp at h1
theorem gd_good {r : List Pt} (hg : Gd r) (i : Nat) : badR r i = false := by
  obtain ⟨h1, h2⟩ := lv_right (hg i).1
  have h3 := gd_lev hg i
  unfold badR badB
  rw [h1, h2, h3]
  generalize levP (at0 r 0) (at0 r 1) = d
  generalize decide (i % 2 = 0) = b
  revert d b
  decide
theorem good_gd {r : List Pt} (h : 0 < r.length) (he : r.length % 2 = 0) (hb : ∀ i, i < r.length → badR r i = false) : (List.range r.length).all (fineAt r) = true := by
  have hl : ∀ i, i < r.length → rightP (at0 r i) (at0 r (i + 1)) = true ∧ levP (at0 r i) (at0 r (i + 1)) = (levP (at0 r 0) (at0 r 1) == decide (i % 2 = 0)) := fun i hi => by
    have h0 := hb i hi
    unfold badR badB at h0
    rw [Bool.or_eq_false_iff] at h0
    obtain ⟨h1, h2, h3⟩ := right_lv h0.2
    refine ⟨h1, ?_⟩
    have h4 := h0.1
    rw [h2, h3] at h4
    generalize levP (at0 r 0) (at0 r 1) = d at *
    generalize decide (i % 2 = 0) = b at *
    generalize levP (at0 r i) (at0 r (i + 1)) = x at *
    clear hb h0 h1 h2 h3
    revert h4
    revert x d b
    decide
  rw [List.all_eq_true]
  intro i hi
  have hi := List.mem_range.1 hi
  unfold fineAt
  rw [Bool.and_eq_true, bne_iff_ne]
  refine ⟨(hl i hi).1, ?_⟩
  rw [(hl i hi).2]
  rcases Nat.eq_zero_or_pos i with h0 | h0
  · subst h0
    rw [Nat.zero_add]
    have h1 := (hl (r.length - 1) (by omega)).2
    rw [Nat.sub_add_cancel h] at h1
    rw [h1, show decide ((r.length - 1) % 2 = 0) = false from decide_eq_false (by omega)]
    generalize levP (at0 r 0) (at0 r 1) = d
    revert d
    decide
  · have h1 := (hl (i - 1) (by omega)).2
    rw [Nat.sub_add_cancel h0] at h1
    have e1 : at0 r (i + r.length - 1) = at0 r (i - 1) := by rw [show i + r.length - 1 = i - 1 + r.length by omega]; exact at0_add r (i - 1)
    rw [e1, at0_add, h1]
    have e : decide (i % 2 = 0) = !decide ((i - 1) % 2 = 0) := by
      rw [← decide_not]
      exact decide_eq_decide.2 (by omega)
    rw [e]
    generalize levP (at0 r 0) (at0 r 1) = d
    generalize decide ((i - 1) % 2 = 0) = b
    revert d b
    decide
/-- The reference's Ring. -/
def ringRef (r : List Pt) : Int :=
  if r.length < 4 then 8 else if 400 < r.length then 1 else if r.all ptOk = false then 2 else if r.length % 2 ≠ 0 then 8 else if (List.range r.length).all (fun i => !badR r i) then 0 else 8
theorem ringRef_eq (r : List Pt) : ringRef r = ringP r := by
  unfold ringRef ringP
  by_cases h4 : r.length < 4
  · rw [if_pos h4, if_pos h4]
  rw [if_neg h4, if_neg h4]
  by_cases h5 : 400 < r.length
  · rw [if_pos h5, if_pos h5]
  rw [if_neg h5, if_neg h5]
  by_cases h6 : r.all ptOk = false
  · rw [if_pos h6, if_pos h6]
  rw [if_neg h6, if_neg h6]
  have h0 : 0 < r.length := by omega
  cases hf : (List.range r.length).all (fineAt r) with
  | true =>
    have hg := (fine_gd h0).1 hf
    have he := gd_even h0 hg
    rw [if_neg (by omega), if_pos rfl, if_pos]
    rw [List.all_eq_true]
    intro i _
    rw [gd_good hg i]
    rfl
  | false =>
    by_cases he : r.length % 2 ≠ 0
    · rw [if_pos he]
      rfl
    · rw [if_neg he, if_neg]
      · rfl
      intro hb
      have := good_gd h0 (by omega) (fun i hi => by
        have := List.all_eq_true.1 hb i (List.mem_range.2 hi)
        simpa using this)
      rw [this] at hf
      cases hf
end Go.Proofs.YtpcfhcdbibklcaaGreat
namespace Go.Proofs.YtpcfhcdbibklcaaGreat
open Go.RowKit Go.Shelf
set_option linter.unusedVariables false
set_option linter.unusedSimpArgs false

/-- The square to the left of a border, and that to its right. -/
def lsqE : Dr → Pt → Pt
  | .ri, p => p
  | .up, p => (p.1 - 1, p.2)
  | .le, p => (p.1 - 1, p.2 - 1)
  | .dn, p => (p.1, p.2 - 1)
def rsqE : Dr → Pt → Pt
  | .ri, p => (p.1, p.2 - 1)
  | .up, p => p
  | .le, p => (p.1 - 1, p.2)
  | .dn, p => (p.1 - 1, p.2 - 1)
theorem bdE_sq (P : Sq) (p : Pt) (d : Dr) : bd P p d = (P (lsqE d p).1 (lsqE d p).2 && !P (rsqE d p).1 (rsqE d p).2) := by cases d <;> rfl
/-- A square lies between two neighbouring lines of each direction. -/
structure Cell (xs ys : List Int) (i k : Nat) (q : Pt) : Prop where
  hi : i + 1 < xs.length
  hk : k + 1 < ys.length
  x0 : xs.getD i 0 ≤ q.1
  x1 : q.1 < xs.getD (i + 1) 0
  y0 : ys.getD k 0 ≤ q.2
  y1 : q.2 < ys.getD (k + 1) 0
theorem cut_find (y : Int) : ∀ (ys : List Int), (∃ j ∈ ys, j ≤ y) → (∃ j ∈ ys, y < j) → ys.Pairwise (· < ·) → ∃ k, k + 1 < ys.length ∧ ys.getD k 0 ≤ y ∧ y < ys.getD (k + 1) 0
  | [], ⟨j, hj, _⟩, _, _ => by simp at hj
  | [a], ⟨j, hj, h1⟩, ⟨m, hm, h2⟩, _ => by simp at hj hm; omega
  | a :: b :: t, ⟨j, hj, h1⟩, ⟨m, hm, h2⟩, hp => by
    have hp1 := List.pairwise_cons.1 hp
    by_cases hb : b ≤ y
    · obtain ⟨k, k1, k2, k3⟩ := cut_find y (b :: t) ⟨b, by simp, hb⟩ ⟨m, by
        rcases List.mem_cons.1 hm with rfl | hm
        · have := hp1.1 b (by simp); omega
        · exact hm, h2⟩ hp1.2
      exact ⟨k + 1, by simp at k1 ⊢; omega, by simpa using k2, by simpa using k3⟩
    · refine ⟨0, by simp, ?_, by simp; omega⟩
      rcases List.mem_cons.1 hj with rfl | hj
      · simpa using h1
      · have : a < j := hp1.1 j hj
        simp
        omega
theorem cut_one {ys : List Int} (hp : ys.Pairwise (· < ·)) {k m : Nat} (hk : k + 1 < ys.length) (hm : m + 1 < ys.length) {y : Int} (h1 : ys.getD k 0 ≤ y) (h2 : y < ys.getD (k + 1) 0) (h3 : ys.getD m 0 ≤ y) (h4 : y < ys.getD (m + 1) 0) : k = m := by
  have hle : ∀ a b : Nat, a ≤ b → b < ys.length → ys.getD a 0 ≤ ys.getD b 0 := fun a b hab hb => by
    rw [getD_at (by omega), getD_at hb]
    rcases Nat.lt_or_ge a b with h | h
    · exact Int.le_of_lt (List.pairwise_iff_getElem.1 hp a b (by omega) hb h)
    · have : a = b := by omega
      subst this
      exact Int.le_refl _
  rcases Nat.lt_trichotomy k m with h | h | h
  · have := hle (k + 1) m (by omega) (by omega); omega
  · exact h
  · have := hle (m + 1) k (by omega) (by omega); omega
theorem Cell.one {xs ys : List Int} (hx : xs.Pairwise (· < ·)) (hy : ys.Pairwise (· < ·)) {i k i' k' : Nat} {q : Pt} (h : Cell xs ys i k q) (h' : Cell xs ys i' k' q) : i = i' ∧ k = k' :=
  ⟨cut_one hx h.hi h'.hi h.x0 h.x1 h'.x0 h'.x1, cut_one hy h.hk h'.hk h.y0 h.y1 h'.y0 h'.y1⟩
/-- The edge of a cell in a direction. -/
def edgeAt (xs ys : List Int) (i k : Nat) : Dr → R4
  | .ri => ⟨xs.getD i 0, ys.getD k 0, xs.getD (i + 1) 0, ys.getD k 0⟩
  | .up => ⟨xs.getD (i + 1) 0, ys.getD k 0, xs.getD (i + 1) 0, ys.getD (k + 1) 0⟩
  | .le => ⟨xs.getD (i + 1) 0, ys.getD (k + 1) 0, xs.getD i 0, ys.getD (k + 1) 0⟩
  | .dn => ⟨xs.getD i 0, ys.getD (k + 1) 0, xs.getD i 0, ys.getD k 0⟩
/-- Whether the cell beyond an edge is in the region. -/
def nbC (P : Sq) (xs ys : List Int) (i k : Nat) : Dr → Bool
  | .ri => P (xs.getD i 0) (ys.getD k 0 - 1)
  | .up => P (xs.getD (i + 1) 0) (ys.getD k 0)
  | .le => P (xs.getD i 0) (ys.getD (k + 1) 0)
  | .dn => P (xs.getD i 0 - 1) (ys.getD k 0)
/-- Where a border lies on the rim of a cell. -/
def rim (xs ys : List Int) (i k : Nat) : Dr → Pt → Prop
  | .ri, p => p.2 = ys.getD k 0
  | .up, p => p.1 = xs.getD (i + 1) 0
  | .le, p => p.2 = ys.getD (k + 1) 0
  | .dn, p => p.1 = xs.getD i 0
theorem cov_edge {xs ys : List Int} (hx : xs.Pairwise (· < ·)) (hy : ys.Pairwise (· < ·)) {i k : Nat} (hi : i + 1 < xs.length) (hk : k + 1 < ys.length) (d d' : Dr) (p : Pt) : Cov (edgeAt xs ys i k d) p d' ↔ d' = d ∧ Cell xs ys i k (lsqE d p) ∧ rim xs ys i k d p := by
  have l1 := lt_succ_getD hx hi
  have l2 := lt_succ_getD hy hk
  cases d
  · rw [edgeAt, cov_ri l1]
    constructor
    · rintro ⟨h1, h2, h3, h4⟩
      exact ⟨h1, ⟨hi, hk, h3, h4, by simp only [lsqE]; omega, by simp only [lsqE]; omega⟩, h2⟩
    · rintro ⟨h1, h2, h3⟩
      exact ⟨h1, h3, h2.x0, h2.x1⟩
  · rw [edgeAt, cov_up l2]
    constructor
    · rintro ⟨h1, h2, h3, h4⟩
      exact ⟨h1, ⟨hi, hk, by simp only [lsqE]; omega, by simp only [lsqE]; omega, h3, h4⟩, h2⟩
    · rintro ⟨h1, h2, h3⟩
      exact ⟨h1, h3, h2.y0, h2.y1⟩
  · rw [edgeAt, cov_le l1]
    constructor
    · rintro ⟨h1, h2, h3, h4⟩
      exact ⟨h1, ⟨hi, hk, by simp only [lsqE]; omega, by simp only [lsqE]; omega, by simp only [lsqE]; omega, by simp only [lsqE]; omega⟩, h2⟩
    · rintro ⟨h1, h2, h3⟩
      have a := h2.x0
      have b := h2.x1
      simp only [lsqE] at a b
      exact ⟨h1, h3, by omega, by omega⟩
  · rw [edgeAt, cov_dn l2]
    constructor
    · rintro ⟨h1, h2, h3, h4⟩
      exact ⟨h1, ⟨hi, hk, by simp only [lsqE]; omega, by simp only [lsqE]; omega, by simp only [lsqE]; omega, by simp only [lsqE]; omega⟩, h2⟩
    · rintro ⟨h1, h2, h3⟩
      have a := h2.y0
      have b := h2.y1
      simp only [lsqE] at a b
      exact ⟨h1, h3, by omega, by omega⟩
theorem edge_st {xs ys : List Int} (hx : xs.Pairwise (· < ·)) (hy : ys.Pairwise (· < ·)) {i k : Nat} (hi : i + 1 < xs.length) (hk : k + 1 < ys.length) (d : Dr) : StE (edgeAt xs ys i k d) ∧ dirOf (edgeAt xs ys i k d) = d := by
  have l1 := lt_succ_getD hx hi
  have l2 := lt_succ_getD hy hk
  have hs : StE (edgeAt xs ys i k d) := by cases d <;> (unfold StE; dsimp only [edgeAt]; omega)
  exact ⟨hs, ((cov_edge hx hy hi hk d _ _).1 (cov_first hs)).1⟩
theorem cell_list {l : List R4} {n : Nat} (hl : InS n l) {i k : Nat} (hi : i + 1 < (xsR l).length) (hk : k + 1 < (ysR l).length) :
    cellR l (xsR l) (ysR l) i k = if inL l ((xsR l).getD i 0) ((ysR l).getD k 0) then ([Dr.ri, .up, .le, .dn].filter fun d => !nbC (inL l) (xsR l) (ysR l) i k d).map (edgeAt (xsR l) (ysR l) i k) else [] := by
  obtain ⟨h1, h2, h3, h4, h5⟩ := cell_low hl i k hi hk
  unfold cellR
  rw [h1, h2, h3, h4, h5]
  simp only [List.filter_cons, List.filter_nil, nbC]
  cases inL l ((xsR l).getD i 0) ((ysR l).getD k 0)
  · simp
  · cases inL l ((xsR l).getD i 0) ((ysR l).getD k 0 - 1) <;> cases inL l ((xsR l).getD (i + 1) 0) ((ysR l).getD k 0) <;> cases inL l ((xsR l).getD i 0) ((ysR l).getD (k + 1) 0) <;> cases inL l ((xsR l).getD i 0 - 1) ((ysR l).getD k 0) <;> simp [edgeAt]
theorem cell_mem {l : List R4} {n : Nat} (hl : InS n l) {i k : Nat} (hi : i + 1 < (xsR l).length) (hk : k + 1 < (ysR l).length) (e : R4) :
    e ∈ cellR l (xsR l) (ysR l) i k ↔ inL l ((xsR l).getD i 0) ((ysR l).getD k 0) = true ∧ ∃ d, nbC (inL l) (xsR l) (ysR l) i k d = false ∧ e = edgeAt (xsR l) (ysR l) i k d := by
  rw [cell_list hl hi hk]
  cases inL l ((xsR l).getD i 0) ((ysR l).getD k 0)
  · simp
  · rw [if_pos rfl, List.mem_map]
    constructor
    · rintro ⟨d, hd, rfl⟩
      have := (List.mem_filter.1 hd).2
      exact ⟨rfl, d, by simpa using this, rfl⟩
    · rintro ⟨_, d, hd, rfl⟩
      exact ⟨d, List.mem_filter.2 ⟨by cases d <;> simp, by simpa using hd⟩, rfl⟩
theorem cell_const {l : List R4} {n : Nat} (hl : InS n l) {i k : Nat} {q : Pt} (h : Cell (xsR l) (ysR l) i k q) : inL l q.1 q.2 = inL l ((xsR l).getD i 0) ((ysR l).getD k 0) := by
  have hh := lines_of hl
  have ht := lines_turned hl
  have e1 : inL l q.1 q.2 = inL l ((xsR l).getD i 0) q.2 := hh.sx q.2 ((xsR l).getD i 0) q.1 (mem_getD (by have := h.hi; omega)) h.x0 fun j hj => by
    rcases between_getD hh.px h.hi j hj with h1 | h1
    · exact .inl h1
    · exact .inr (by have := h.x1; omega)
  have e2 : inL l ((xsR l).getD i 0) q.2 = inL l ((xsR l).getD i 0) ((ysR l).getD k 0) := ht.sx ((xsR l).getD i 0) ((ysR l).getD k 0) q.2 (mem_getD (by have := h.hk; omega)) h.y0 fun j hj => by
    rcases between_getD hh.py h.hk j hj with h1 | h1
    · exact .inl h1
    · exact .inr (by have := h.y1; omega)
  rw [e1, e2]
/-- What lies beyond the rim of a cell. -/
theorem nb_sq {l : List R4} {n : Nat} (hl : InS n l) {i k : Nat} {d : Dr} {p : Pt} (h : Cell (xsR l) (ysR l) i k (lsqE d p)) (hr : rim (xsR l) (ysR l) i k d p) : inL l (rsqE d p).1 (rsqE d p).2 = nbC (inL l) (xsR l) (ysR l) i k d := by
  have hh := lines_of hl
  have ht := lines_turned hl
  have hsx : ∀ x y, (xsR l).getD i 0 ≤ x → x < (xsR l).getD (i + 1) 0 → inL l x y = inL l ((xsR l).getD i 0) y := fun x y h0 h1 => hh.sx y ((xsR l).getD i 0) x (mem_getD (by have := h.hi; omega)) h0 fun j hj => by
    rcases between_getD hh.px h.hi j hj with h1 | h1
    · exact .inl h1
    · exact .inr (by omega)
  have hsy : ∀ x y, (ysR l).getD k 0 ≤ y → y < (ysR l).getD (k + 1) 0 → inL l x y = inL l x ((ysR l).getD k 0) := fun x y h0 h1 => ht.sx x ((ysR l).getD k 0) y (mem_getD (by have := h.hk; omega)) h0 fun j hj => by
    rcases between_getD hh.py h.hk j hj with h1 | h1
    · exact .inl h1
    · exact .inr (by omega)
  have x0 := h.x0
  have x1 := h.x1
  have y0 := h.y0
  have y1 := h.y1
  cases d <;> simp only [lsqE, rsqE, rim, nbC] at *
  · rw [hr]; exact hsx _ _ x0 x1
  · rw [hr]; exact hsy _ _ y0 y1
  · rw [hr]; exact hsx _ _ x0 x1
  · rw [hr]; exact hsy _ _ y0 y1
theorem edgesR_mem {l : List R4} {n : Nat} (hl : InS n l) (e : R4) : e ∈ edgesR l ↔ ∃ i k d, i + 1 < (xsR l).length ∧ k + 1 < (ysR l).length ∧ inL l ((xsR l).getD i 0) ((ysR l).getD k 0) = true ∧ nbC (inL l) (xsR l) (ysR l) i k d = false ∧ e = edgeAt (xsR l) (ysR l) i k d := by
  unfold edgesR
  simp only [List.mem_flatMap, List.mem_range]
  constructor
  · rintro ⟨k, hk, i, hi, h⟩
    obtain ⟨h1, d, h2, h3⟩ := (cell_mem hl (by omega) (by omega) e).1 h
    exact ⟨i, k, d, by omega, by omega, h1, h2, h3⟩
  · rintro ⟨i, k, d, hi, hk, h1, h2, h3⟩
    exact ⟨k, by omega, i, by omega, (cell_mem hl hi hk e).2 ⟨h1, d, h2, h3⟩⟩
theorem edgesR_set {l : List R4} {n : Nat} (hl : InS n l) : ESet (inL l) (edgesR l) := by
  have hh := lines_of hl
  have hx := hh.px
  have hy := hh.py
  have hdis : ∀ (i k i' k' : Nat) (d d' : Dr), i + 1 < (xsR l).length → k + 1 < (ysR l).length → i' + 1 < (xsR l).length → k' + 1 < (ysR l).length → ∀ p d0, Cov (edgeAt (xsR l) (ysR l) i k d) p d0 → Cov (edgeAt (xsR l) (ysR l) i' k' d') p d0 → i = i' ∧ k = k' ∧ d = d' := fun i k i' k' d d' hi hk hi' hk' p d0 h1 h2 => by
    obtain ⟨a1, a2, a3⟩ := (cov_edge hx hy hi hk d d0 p).1 h1
    obtain ⟨b1, b2, b3⟩ := (cov_edge hx hy hi' hk' d' d0 p).1 h2
    have hd : d = d' := a1.symm.trans b1
    subst hd
    exact ⟨(a2.one hx hy b2).1, (a2.one hx hy b2).2, rfl⟩
  refine ⟨fun e he => ?_, fun e he p d hc => ?_, fun p d hb => ?_, ?_, fun e he f hf p d h1 h2 => ?_⟩
  · obtain ⟨i, k, d, hi, hk, _, _, rfl⟩ := (edgesR_mem hl e).1 he
    exact (edge_st hx hy hi hk d).1
  · obtain ⟨i, k, d', hi, hk, h1, h2, rfl⟩ := (edgesR_mem hl e).1 he
    obtain ⟨rfl, g1, g2⟩ := (cov_edge hx hy hi hk d' d p).1 hc
    rw [bdE_sq, cell_const hl g1, h1, nb_sq hl g1 g2, h2]
    rfl
  · rw [bdE_sq, Bool.and_eq_true] at hb
    obtain ⟨h1, h2⟩ := hb
    have hx1 : ¬ ((∀ k ∈ xsR l, (lsqE d p).1 < k) ∨ ∀ k ∈ xsR l, k ≤ (lsqE d p).1) := fun h => by rw [hh.ox _ _ h] at h1; cases h1
    have hy1 : ¬ ((∀ k ∈ ysR l, (lsqE d p).2 < k) ∨ ∀ k ∈ ysR l, k ≤ (lsqE d p).2) := fun h => by rw [hh.oy _ _ h] at h1; cases h1
    have key : ∀ (zs : List Int) (z : Int), ¬ ((∀ k ∈ zs, z < k) ∨ ∀ k ∈ zs, k ≤ z) → (∃ j ∈ zs, j ≤ z) ∧ ∃ j ∈ zs, z < j := fun zs z h => by
      refine ⟨Classical.byContradiction fun hn => h (.inl fun k hk => ?_), Classical.byContradiction fun hn => h (.inr fun k hk => ?_)⟩
      · rcases Int.lt_or_le z k with h3 | h3
        · exact h3
        · exact absurd ⟨k, hk, h3⟩ hn
      · rcases Int.lt_or_le z k with h3 | h3
        · exact absurd ⟨k, hk, h3⟩ hn
        · exact h3
    obtain ⟨i, hi, x0, x1⟩ := cut_find _ _ (key _ _ hx1).1 (key _ _ hx1).2 hx
    obtain ⟨k, hk, y0, y1⟩ := cut_find _ _ (key _ _ hy1).1 (key _ _ hy1).2 hy
    have hc : Cell (xsR l) (ysR l) i k (lsqE d p) := ⟨hi, hk, x0, x1, y0, y1⟩
    have hnot : ¬ Cell (xsR l) (ysR l) i k (rsqE d p) := fun h => by
      rw [cell_const hl h, ← cell_const hl hc, h1] at h2
      cases h2
    have hr : rim (xsR l) (ysR l) i k d p := by
      have hn : ∀ (x0 : (xsR l).getD i 0 ≤ (rsqE d p).1) (x1 : (rsqE d p).1 < (xsR l).getD (i + 1) 0) (y0 : (ysR l).getD k 0 ≤ (rsqE d p).2) (y1 : (rsqE d p).2 < (ysR l).getD (k + 1) 0), False := fun a b c e => hnot ⟨hi, hk, a, b, c, e⟩
      clear hnot hc h1 h2 hx1 hy1 key
      cases d <;> simp only [lsqE, rsqE, rim] at * <;> (apply Classical.byContradiction; intro hne; apply hn <;> omega)
    refine ⟨edgeAt (xsR l) (ysR l) i k d, (edgesR_mem hl _).2 ⟨i, k, d, hi, hk, by rw [← cell_const hl hc]; exact h1, ?_, rfl⟩, (cov_edge hx hy hi hk d d p).2 ⟨rfl, hc, hr⟩⟩
    rw [← nb_sq hl hc hr]
    simpa using h2
  · unfold edgesR
    show List.Pairwise _ _
    rw [List.pairwise_flatMap]
    refine ⟨fun k hk => ?_, ?_⟩
    · rw [List.mem_range] at hk
      rw [List.pairwise_flatMap]
      refine ⟨fun i hi => ?_, ?_⟩
      · rw [List.mem_range] at hi
        rw [cell_list hl (by omega) (by omega)]
        split
        · rw [List.pairwise_map]
          have hnd : ([Dr.ri, .up, .le, .dn].filter fun d => !nbC (inL l) (xsR l) (ysR l) i k d).Nodup := List.Nodup.sublist List.filter_sublist (by decide)
          refine List.Pairwise.imp (fun {a b} hab e => hab ?_) hnd
          rw [← (edge_st hx hy (show i + 1 < _ by omega) (show k + 1 < _ by omega) a).2, e, (edge_st hx hy (show i + 1 < _ by omega) (show k + 1 < _ by omega) b).2]
        · exact List.Pairwise.nil
      · refine List.Pairwise.imp_of_mem (fun {a b} ha hb hab e he f hf hef => ?_) List.pairwise_lt_range
        rw [List.mem_range] at ha hb
        obtain ⟨_, d, _, rfl⟩ := (cell_mem hl (by omega) (by omega) e).1 he
        obtain ⟨_, d', _, h3⟩ := (cell_mem hl (by omega) (by omega) f).1 hf
        subst hef
        have hc := cov_first (edge_st hx hy (show a + 1 < _ by omega) (show k + 1 < _ by omega) d).1
        have := hdis a k b k d d' (by omega) (by omega) (by omega) (by omega) _ _ hc (h3 ▸ hc)
        omega
    · refine List.Pairwise.imp_of_mem (fun {a b} ha hb hab e he f hf hef => ?_) List.pairwise_lt_range
      rw [List.mem_range] at ha hb
      obtain ⟨i, hi, he⟩ := List.mem_flatMap.1 he
      obtain ⟨i', hi', hf⟩ := List.mem_flatMap.1 hf
      rw [List.mem_range] at hi hi'
      obtain ⟨_, d, _, rfl⟩ := (cell_mem hl (by omega) (by omega) e).1 he
      obtain ⟨_, d', _, h3⟩ := (cell_mem hl (by omega) (by omega) f).1 hf
      subst hef
      have hc := cov_first (edge_st hx hy (show i + 1 < _ by omega) (show a + 1 < _ by omega) d).1
      have := hdis i a i' b d d' (by omega) (by omega) (by omega) (by omega) _ _ hc (h3 ▸ hc)
      omega
  · obtain ⟨i, k, d1, hi, hk, _, _, rfl⟩ := (edgesR_mem hl e).1 he
    obtain ⟨i', k', d2, hi', hk', _, _, rfl⟩ := (edgesR_mem hl f).1 hf
    obtain ⟨rfl, rfl, rfl⟩ := hdis i k i' k' d1 d2 hi hk hi' hk' p d h1 h2
    rfl
end Go.Proofs.YtpcfhcdbibklcaaGreat
namespace Go.Proofs.YtpcfhcdbibklcaaGreat
open Go.RowKit Go.Shelf Go.Lib Go.Sort
set_option linter.unusedVariables false
set_option linter.unusedSimpArgs false

theorem RBs.two (w : World) (A B : Option Addr) (n c m d : Nat) (a b : List R4) (hA : SlR w A n c a) (hB : SlR w B m d b) : RBs ((w.alloc (.cells #[.slice A n c] 25)).alloc (.cells #[.slice B m d] 25)) [⟨w.heap.size + 1, B, m, d, b⟩, ⟨w.heap.size, A, n, c, a⟩] := by
  have h0 : RBs w [] := fun x hx => by cases hx
  have h1 := h0.push A n c a hA
  have h2 := h1.push B m d b (hB.below (by repeat' (first | with_reducible exact Below.refl _ _ | with_reducible refine below_drewN ?_ _ | with_reducible refine Below.drew ?_ | with_reducible refine Below.alloc ?_ ?_ _ | with_reducible refine Below.setCell ?_ ?_ _ | with_reducible refine Below.trans ?_ (Below.mono (by with_reducible assumption) ?_) | (simp; done) | (simp; omega) | omega)))
  simpa using h2

end Go.Proofs.YtpcfhcdbibklcaaGreat
namespace Go.Proofs.YtpcfhcdbibklcaaGreat
open Go.RowKit
set_option linter.unusedVariables false
set_option linter.unusedSimpArgs false

theorem howR1 : howR 1 = orB := by funext x y; rfl
end Go.Proofs.YtpcfhcdbibklcaaGreat
namespace Go.Proofs.YtpcfhcdbibklcaaGreat
open Go.RowKit Go.Shelf
set_option linter.unusedVariables false
set_option linter.unusedSimpArgs false

/-- Whether an odd number of walls at X cover Y. -/
def hitW (X Y : Int) (q : Wl) : Bool := decide (q.1 = X) && covW Y q
def oddH (X Y : Int) (ws : List Wl) : Bool := decide (ws.countP (hitW X Y) % 2 = 1)
theorem odd_add (a b : Nat) : decide ((a + b) % 2 = 1) = (decide (a % 2 = 1) != decide (b % 2 = 1)) := by
  rcases Nat.mod_two_eq_zero_or_one a with h1 | h1 <;> rcases Nat.mod_two_eq_zero_or_one b with h2 | h2 <;> rw [h1, h2, Nat.add_mod, h1, h2] <;> rfl
theorem oddH_app (X Y : Int) (a b : List Wl) : oddH X Y (a ++ b) = (oddH X Y a != oddH X Y b) := by
  unfold oddH
  rw [List.countP_append, odd_add]
theorem oddH_nil (X Y : Int) : oddH X Y [] = false := rfl
theorem oddH_one (X Y : Int) (q : Wl) : oddH X Y [q] = hitW X Y q := by
  unfold oddH
  rw [List.countP_cons, List.countP_nil]
  cases hitW X Y q <;> rfl
theorem oddH_at (X Y : Int) (r : List Pt) (j : Nat) : oddH X Y (wallAt r j) = (decide ((at0 r j).1 = (at0 r (j + 1)).1) && decide ((at0 r j).1 = X) && (decide (min (at0 r j).2 (at0 r (j + 1)).2 ≤ Y) && decide (Y < max (at0 r j).2 (at0 r (j + 1)).2))) := by
  unfold wallAt
  by_cases h : (at0 r j).1 = (at0 r (j + 1)).1
  · rw [if_pos h, oddH_one, decide_eq_true h]
    rfl
  · rw [if_neg h, oddH_nil, decide_eq_false h]
    rfl
/-- Whether the squares behind so many lines are inside. -/
def colIn (xs : List Int) (Y : Int) (ws : List Wl) : Nat → Bool
  | 0 => false
  | k + 1 => colIn xs Y ws k != oddH (xs.getD k 0) Y ws
def cellF (xs ys : List Int) (ws : List Wl) (i k : Nat) : List R4 := if colIn xs (ys.getD i 0) ws (k + 1) then [⟨xs.getD k 0, ys.getD i 0, xs.getD (k + 1) 0, ys.getD (i + 1) 0⟩] else []
def rowF (xs ys : List Int) (ws : List Wl) (i k : Nat) : List R4 := (List.range k).flatMap fun k => cellF xs ys ws i k
def allF (xs ys : List Int) (ws : List Wl) (i : Nat) : List R4 := (List.range i).flatMap fun i => rowF xs ys ws i (xs.length - 1)
theorem rowF_succ (xs ys : List Int) (ws : List Wl) (i k : Nat) : rowF xs ys ws i (k + 1) = rowF xs ys ws i k ++ cellF xs ys ws i k := by unfold rowF; rw [List.range_succ, List.flatMap_append]; simp
theorem allF_succ (xs ys : List Int) (ws : List Wl) (i : Nat) : allF xs ys ws (i + 1) = allF xs ys ws i ++ rowF xs ys ws i (xs.length - 1) := by unfold allF; rw [List.range_succ, List.flatMap_append]; simp
theorem rowF_len (xs ys : List Int) (ws : List Wl) (i : Nat) : ∀ k, (rowF xs ys ws i k).length ≤ k
  | 0 => by simp [rowF]
  | k + 1 => by
    have := rowF_len xs ys ws i k
    rw [rowF_succ, List.length_append]
    unfold cellF
    split <;> simp <;> omega
theorem allF_len (xs ys : List Int) (ws : List Wl) : ∀ i, (allF xs ys ws i).length ≤ i * (xs.length - 1)
  | 0 => by simp [allF]
  | i + 1 => by
    have := allF_len xs ys ws i
    have := rowF_len xs ys ws i (xs.length - 1)
    rw [allF_succ, List.length_append, Nat.succ_mul]
    omega
/-- Lines that hold the ends of walls. -/
structure Hold (xs ys : List Int) (ws : List Wl) : Prop where
  px : xs.Pairwise (· < ·)
  py : ys.Pairwise (· < ·)
  mx : ∀ q ∈ ws, q.1 ∈ xs
  my : ∀ q ∈ ws, q.2.1 ∈ ys ∧ q.2.2 ∈ ys
  even : ∀ Y, (xsAt ws Y).length % 2 = 0
theorem count_map (X Y : Int) (ws : List Wl) : ws.countP (hitW X Y) = (xsAt ws Y).countP fun x => decide (x = X) := by
  unfold xsAt
  rw [List.countP_map, List.countP_filter]
  refine List.countP_congr fun q _ => ?_
  show hitW X Y q = true ↔ (decide (q.1 = X) && covW Y q) = true
  rfl
theorem xsAt_mem {ws : List Wl} {Y x : Int} (h : x ∈ xsAt ws Y) : ∃ q ∈ ws, q.1 = x := by
  unfold xsAt at h
  obtain ⟨q, hq, e⟩ := List.mem_map.1 h
  exact ⟨q, (List.mem_filter.1 hq).1, e⟩
theorem count_or {α : Type} (p q : α → Bool) : ∀ (l : List α), (∀ x ∈ l, p x = true → q x = true → False) → l.countP (fun x => p x || q x) = l.countP p + l.countP q
  | [], _ => rfl
  | a :: t, h => by
    have ih := count_or p q t fun x hx => h x (List.mem_cons_of_mem _ hx)
    have h0 := h a (by simp)
    rw [List.countP_cons, List.countP_cons, List.countP_cons, ih]
    cases hp : p a <;> cases hq : q a
    · simp
    · simp; omega
    · simp; omega
    · exact (h0 hp hq).elim
theorem colIn_eq {xs ys : List Int} {ws : List Wl} (h : Hold xs ys ws) (Y : Int) : ∀ k, k ≤ xs.length → colIn xs Y ws k = decide ((xsAt ws Y).countP (fun x => decide (x ∈ xs.take k)) % 2 = 1)
  | 0, _ => by simp [colIn]
  | k + 1, hk => by
    rw [colIn, colIn_eq h Y k (by omega)]
    unfold oddH
    rw [count_map, ← odd_add, ← count_or]
    · congr 3
      refine List.countP_congr fun x _ => ?_
      rw [List.take_succ_eq_append_getElem (by omega), Bool.or_eq_true, decide_eq_true_eq, decide_eq_true_eq, decide_eq_true_eq, List.mem_append, List.mem_singleton, getD_at (show k < xs.length by omega)]
    · intro x _ h1 h2
      rw [decide_eq_true_eq] at h1 h2
      rw [getD_at (show k < xs.length by omega)] at h2
      obtain ⟨j, hj, e⟩ := List.mem_iff_getElem.1 h1
      rw [List.getElem_take] at e
      simp at hj
      have := List.pairwise_iff_getElem.1 h.px j k (by omega) (by omega) (by omega)
      omega
theorem take_le {xs : List Int} (hp : xs.Pairwise (· < ·)) {k : Nat} (hk : k < xs.length) {x : Int} (hx : x ∈ xs) : x ∈ xs.take (k + 1) ↔ x ≤ xs.getD k 0 := by
  have hh := List.pairwise_iff_getElem.1 hp
  rw [getD_at hk]
  constructor
  · intro h
    obtain ⟨j, hj, e⟩ := List.mem_iff_getElem.1 h
    rw [List.getElem_take] at e
    simp at hj
    rcases Nat.lt_or_ge j k with h1 | h1
    · have := hh j k (by omega) hk h1
      omega
    · have : j = k := by omega
      subst this
      omega
  · intro h
    obtain ⟨j, hj, rfl⟩ := List.mem_iff_getElem.1 hx
    have hjk : j < k + 1 := by
      rcases Nat.lt_or_ge k j with h1 | h1
      · have := hh k j hk hj h1
        omega
      · omega
    exact List.mem_iff_getElem.2 ⟨j, by rw [List.length_take]; omega, by rw [List.getElem_take]⟩
theorem colIn_cnt {xs ys : List Int} {ws : List Wl} (h : Hold xs ys ws) (Y : Int) {k : Nat} (hk : k < xs.length) : colIn xs Y ws (k + 1) = decide (cntLe (xs.getD k 0) (xsAt ws Y) % 2 = 1) := by
  rw [colIn_eq h Y (k + 1) (by omega)]
  unfold cntLe
  congr 3
  refine List.countP_congr fun x hx => ?_
  obtain ⟨q, hq, rfl⟩ := xsAt_mem hx
  rw [decide_eq_true_eq, decide_eq_true_eq]
  exact take_le h.px hk (h.mx q hq)
theorem xsAt_same {xs ys : List Int} {ws : List Wl} (h : Hold xs ys ws) {i : Nat} (hi : i + 1 < ys.length) {Y : Int} (h0 : ys.getD i 0 ≤ Y) (h1 : Y < ys.getD (i + 1) 0) : xsAt ws Y = xsAt ws (ys.getD i 0) := by
  unfold xsAt
  congr 1
  refine List.filter_congr fun q hq => ?_
  obtain ⟨m1, m2⟩ := h.my q hq
  have b1 := between_getD h.py hi _ m1
  have b2 := between_getD h.py hi _ m2
  unfold covW
  congr 1 <;> exact decide_eq_decide.2 (by omega)
theorem cnt_same {xs ys : List Int} {ws : List Wl} (h : Hold xs ys ws) {k : Nat} (hk : k + 1 < xs.length) {X : Int} (h0 : xs.getD k 0 ≤ X) (h1 : X < xs.getD (k + 1) 0) (Y : Int) : cntLe X (xsAt ws Y) = cntLe (xs.getD k 0) (xsAt ws Y) := by
  unfold cntLe
  refine List.countP_congr fun x hx => ?_
  obtain ⟨q, hq, rfl⟩ := xsAt_mem hx
  have b1 := between_getD h.px hk _ (h.mx q hq)
  rw [decide_eq_true_eq, decide_eq_true_eq]
  omega
theorem allF_in {xs ys : List Int} {ws : List Wl} (h : Hold xs ys ws) (X Y : Int) : inL (allF xs ys ws (ys.length - 1)) X Y = decide (cntLe X (xsAt ws Y) % 2 = 1) := by
  have hmem : inL (allF xs ys ws (ys.length - 1)) X Y = true ↔ ∃ k i, Cell xs ys k i (X, Y) ∧ colIn xs (ys.getD i 0) ws (k + 1) = true := by
    unfold inL
    rw [List.any_eq_true]
    constructor
    · rintro ⟨q, hq, h1⟩
      unfold allF at hq
      obtain ⟨i, hi, hq⟩ := List.mem_flatMap.1 hq
      unfold rowF at hq
      obtain ⟨k, hk, hq⟩ := List.mem_flatMap.1 hq
      rw [List.mem_range] at hi hk
      unfold cellF at hq
      split at hq
      · rename_i hc
        rw [List.mem_singleton] at hq
        subst hq
        simp only [R4.has, Bool.and_eq_true, decide_eq_true_eq] at h1
        exact ⟨k, i, ⟨by omega, by omega, h1.1.1.1, h1.1.1.2, h1.1.2, h1.2⟩, hc⟩
      · cases hq
    · rintro ⟨k, i, hc, h1⟩
      have a := hc.hi
      have b := hc.hk
      refine ⟨⟨xs.getD k 0, ys.getD i 0, xs.getD (k + 1) 0, ys.getD (i + 1) 0⟩, ?_, ?_⟩
      · unfold allF
        refine List.mem_flatMap.2 ⟨i, List.mem_range.2 (by omega), ?_⟩
        unfold rowF
        refine List.mem_flatMap.2 ⟨k, List.mem_range.2 (by omega), ?_⟩
        unfold cellF
        rw [if_pos h1]
        simp
      · simp only [R4.has, Bool.and_eq_true, decide_eq_true_eq]
        exact ⟨⟨⟨hc.x0, hc.x1⟩, hc.y0⟩, hc.y1⟩
  have hval : ∀ k i, Cell xs ys k i (X, Y) → colIn xs (ys.getD i 0) ws (k + 1) = decide (cntLe X (xsAt ws Y) % 2 = 1) := fun k i hc => by
    rw [colIn_cnt h _ (by have := hc.hi; omega), cnt_same h hc.hi hc.x0 hc.x1, xsAt_same h hc.hk hc.y0 hc.y1]
  rw [Bool.eq_iff_iff, hmem]
  constructor
  · rintro ⟨k, i, hc, h1⟩
    rw [← hval k i hc]
    exact h1
  · intro ho
    have ho2 := of_decide_eq_true ho
    have hpos : 0 < cntLe X (xsAt ws Y) := by omega
    unfold cntLe at hpos
    obtain ⟨x, hx, hxX⟩ := List.countP_pos_iff.1 hpos
    obtain ⟨q, hq, rfl⟩ : ∃ q, (q ∈ ws ∧ covW Y q = true) ∧ q.1 = x := by
      unfold xsAt at hx
      obtain ⟨q, hq, e⟩ := List.mem_map.1 hx
      exact ⟨q, List.mem_filter.1 hq, e⟩
    have hcv := hq.2
    simp only [covW, Bool.and_eq_true, decide_eq_true_eq] at hcv
    have hright : ∃ j ∈ xs, X < j := by
      refine Classical.byContradiction fun hn => ?_
      have hall : (xsAt ws Y).countP (fun k => decide (k ≤ X)) = (xsAt ws Y).length := by
        rw [List.countP_eq_length]
        intro z hz
        obtain ⟨q', hq', rfl⟩ := xsAt_mem hz
        rw [decide_eq_true_eq]
        rcases Int.lt_or_le X q'.1 with h3 | h3
        · exact absurd ⟨_, h.mx q' hq', h3⟩ hn
        · exact h3
      have := h.even Y
      unfold cntLe at ho2
      rw [hall] at ho2
      omega
    obtain ⟨k, hk, x0, x1⟩ := cut_find X xs ⟨_, h.mx q hq.1, of_decide_eq_true hxX⟩ hright h.px
    obtain ⟨i, hi, y0, y1⟩ := cut_find Y ys ⟨_, (h.my q hq.1).1, hcv.1⟩ ⟨_, (h.my q hq.1).2, hcv.2⟩ h.py
    have hc : Cell xs ys k i (X, Y) := ⟨hk, hi, x0, x1, y0, y1⟩
    exact ⟨k, i, hc, by rw [hval k i hc]; exact ho⟩
/-- The lines of corners. -/
def ptX (rs : List (List Pt)) : List Int := rs.flatMap fun r => r.map (·.1)
def ptY (rs : List (List Pt)) : List Int := rs.flatMap fun r => r.map (·.2)
def cutX (rs : List (List Pt)) : List Int := (ptX rs).foldl putL []
def cutY (rs : List (List Pt)) : List Int := (ptY rs).foldl putL []
theorem cut_hold {rs : List (List Pt)} (h : ∀ r ∈ rs, ringP r = 0) : Hold (cutX rs) (cutY rs) (wallsL rs) := by
  have hx : ∀ r ∈ rs, ∀ j, 0 < r.length → (at0 r j).1 ∈ cutX rs ∧ (at0 r j).2 ∈ cutY rs := fun r hr j hl => by
    have hm : at0 r j ∈ r := by
      rw [← at0_mod, at0_lt r (Nat.mod_lt _ hl)]
      exact List.getElem_mem _
    refine ⟨?_, ?_⟩
    · unfold cutX
      rw [puts_mem]
      exact .inl (List.mem_flatMap.2 ⟨r, hr, List.mem_map.2 ⟨_, hm, rfl⟩⟩)
    · unfold cutY
      rw [puts_mem]
      exact .inl (List.mem_flatMap.2 ⟨r, hr, List.mem_map.2 ⟨_, hm, rfl⟩⟩)
  have hw : ∀ q ∈ wallsL rs, q.1 ∈ cutX rs ∧ q.2.1 ∈ cutY rs ∧ q.2.2 ∈ cutY rs := fun q hq => by
    obtain ⟨r, hr, hq⟩ := List.mem_flatMap.1 hq
    obtain ⟨j, hj, hq⟩ := List.mem_flatMap.1 hq
    rw [List.mem_range] at hj
    have a := hx r hr j (by omega)
    have b := hx r hr (j + 1) (by omega)
    unfold wallAt at hq
    split at hq
    · rw [List.mem_singleton] at hq
      subst hq
      refine ⟨a.1, ?_, ?_⟩
      · show min _ _ ∈ _
        rw [Int.min_def]
        split
        · exact a.2
        · exact b.2
      · show max _ _ ∈ _
        rw [Int.max_def]
        split
        · exact b.2
        · exact a.2
    · cases hq
  exact ⟨puts_lt _ _ List.Pairwise.nil, puts_lt _ _ List.Pairwise.nil, fun q hq => (hw q hq).1, fun q hq => (hw q hq).2, rings_even h⟩
theorem allF_pos {xs ys : List Int} {ws : List Wl} (h : Hold xs ys ws) : ∀ q ∈ allF xs ys ws (ys.length - 1), q.l < q.r := by
  intro q hq
  unfold allF at hq
  obtain ⟨i, hi, hq⟩ := List.mem_flatMap.1 hq
  unfold rowF at hq
  obtain ⟨k, hk, hq⟩ := List.mem_flatMap.1 hq
  rw [List.mem_range] at hi hk
  unfold cellF at hq
  split at hq
  · rw [List.mem_singleton] at hq
    subst hq
    exact lt_succ_getD h.px (by omega)
  · cases hq
theorem fillF_eq {rs : List (List Pt)} (h : ∀ r ∈ rs, ringP r = 0) : combP (howR 1) (allF (cutX rs) (cutY rs) (wallsL rs) ((cutY rs).length - 1)) [] = fillR (wallsL rs) := by
  have hh := cut_hold h
  rw [show howR 1 = (· || ·) from howR1, ← canonP_comb _ (allF_pos hh)]
  have e : inL (allF (cutX rs) (cutY rs) (wallsL rs) ((cutY rs).length - 1)) = oddP rs := by
    funext X Y
    rw [allF_in hh]
    unfold oddP
    rw [← cnt_all]
    exact decide_eq_decide.2 (by omega)
  have hc := canonP_canon _ (allF_pos hh)
  rw [e] at hc
  exact hc.uniq (fill_canon h)
theorem cut_len (rs : List (List Pt)) : (cutX rs).length ≤ (rs.map List.length).sum ∧ (cutY rs).length ≤ (rs.map List.length).sum := by
  have h1 : ∀ (f : Pt → Int), (rs.flatMap fun r => r.map f).length = (rs.map List.length).sum := fun f => by
    induction rs with
    | nil => rfl
    | cons r t ih => rw [List.flatMap_cons, List.length_append, ih, List.map_cons, List.sum_cons, List.length_map]
  have h2 := puts_len (ptX rs) []
  have h3 := puts_len (ptY rs) []
  unfold ptX at h2
  unfold ptY at h3
  rw [h1] at h2 h3
  simp at h2 h3
  exact ⟨h2, h3⟩
end Go.Proofs.YtpcfhcdbibklcaaGreat
