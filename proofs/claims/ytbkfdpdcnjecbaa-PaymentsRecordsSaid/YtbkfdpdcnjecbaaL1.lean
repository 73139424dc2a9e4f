/- PaymentsRecords: the walk. -/
import Derived.Test.YtbkfdpdcnjecbaaTq
import Derived.Test.YtbkfdpdcnjecbaaAk
namespace Go.Proofs.Ytbkfdpdcnjecbaa
open Go.RowKit
set_option linter.unusedVariables false

theorem rec_inj (a b : Ord4) (ha : rightB a = true) (hb : rightB b = true) : recB a = recB b ↔ a = b := ⟨fun h => by rw [← rec_ord a ha, ← rec_ord b hb, h], fun h => by rw [h]⟩
theorem rec_tail (o : Ord4) : ∃ x y, (recB o)[26]? = some x ∧ (recB o)[27]? = some y ∧ (0 ≤ x ∧ x ≤ 255) ∧ (0 ≤ y ∧ y ≤ 255) ∧ sumB ((recB o).take 26) = 256 * x + y := by
  have hs := sumB_bd (bodyB o) (bodyB_bytes o)
  obtain ⟨_, _, _, _, _, s5⟩ := rec_seg o []
  rw [List.append_nil] at s5
  have e : recB o = bodyB o ++ [sumB (bodyB o) / 256 % 256, sumB (bodyB o) % 256] := by simp [recB, be]
  refine ⟨sumB (bodyB o) / 256 % 256, sumB (bodyB o) % 256, ?_, ?_, by omega, by omega, by rw [s5]; omega⟩
  · rw [e, List.getElem?_append_right (by rw [bodyB_len]; omega), bodyB_len]; rfl
  · rw [e, List.getElem?_append_right (by rw [bodyB_len]; omega), bodyB_len]; rfl

def oc (o : Ord4) : Array Value := #[.int .i64 o.n, .int .i64 o.f, .int .i64 o.a, .int .i64 o.d]
/-- Two blocks hold orders. -/
structure OBoxes (w : World) (g h : Nat) (a b : Ord4) : Prop where
  one : w.heap[g]? = some (.cells (oc a) 32 (0, 0))
  two : w.heap[h]? = some (.cells (oc b) 32 (0, 0))
theorem OBoxes.new (w : World) (a b : Ord4) : OBoxes ((w.alloc (.cells (oc a) 32)).alloc (.cells (oc b) 32)) w.heap.size (w.heap.size + 1) a b := ⟨heap_alloc2_old w _ _, heap_alloc2_new w _ _⟩
theorem OBoxes.below {w w' : World} {g h : Nat} {a b : Ord4} {q : Nat} (k : OBoxes w g h a b) (hb : Below q w w') (hg : g < q) (hh : h < q) : OBoxes w' g h a b := ⟨(hb.block g hg).trans k.one, (hb.block h hh).trans k.two⟩
theorem OBoxes.facts {w : World} {g h : Nat} {a b : Ord4} (k : OBoxes w g h a b) :
    (w.cell? ⟨g, 0, none⟩ = some (.int .i64 a.n) ∧ w.cell? ⟨g, 1, none⟩ = some (.int .i64 a.f) ∧ w.cell? ⟨g, 2, none⟩ = some (.int .i64 a.a) ∧ w.cell? ⟨g, 3, none⟩ = some (.int .i64 a.d)) ∧
    w.cell? ⟨h, 0, none⟩ = some (.int .i64 b.n) ∧ w.cell? ⟨h, 1, none⟩ = some (.int .i64 b.f) ∧ w.cell? ⟨h, 2, none⟩ = some (.int .i64 b.a) ∧ w.cell? ⟨h, 3, none⟩ = some (.int .i64 b.d) :=
  ⟨⟨cell_of_row w g 0 _ _ _ k.one, cell_of_row w g 1 _ _ _ k.one, cell_of_row w g 2 _ _ _ k.one, cell_of_row w g 3 _ _ _ k.one⟩, cell_of_row w h 0 _ _ _ k.two, cell_of_row w h 1 _ _ _ k.two, cell_of_row w h 2 _ _ _ k.two, cell_of_row w h 3 _ _ _ k.two⟩

set_option maxHeartbeats 2000000 in
set_option maxRecDepth 100000 in
theorem recordsLaw (A : Option Addr) (n c : Nat) (zs : List Int) (w : World) (hn : zs.length = n) (hc : n ≤ c) (hm : c ≤ maxLen) (hw : ∀ z ∈ zs, (Lit.int .i64 z).wf = true) (hA : Lies w A n (zs.map (.int .i64))) :
    Calls Try.prog 7 #[.slice A n c] w fun e w' => e = .returned (.bool true) ∧ Below w.heap.size w w' := by
  have HN := Lib.hid (new_any A n c zs w hn hc hm hw hA)
  clear hn hw hA
  go_enter Try.func7, Try.ntmps7
  go_wp2_with fail
  refine HN.out.mono ?_
  rintro e w0 ⟨g, rfl, hg, ht, hb0⟩
  generalize zs.take 400 = r at *
  have hlt := ht.lt
  go_wp2_with fail
  refine (range_any g r 1 900 _ ht (by omega) (by omega) (by omega)).mono ?_
  rintro e w1 ⟨rfl, ht1, hg1⟩
  simp only [show (900 : Int) - 1 + 1 = 900 from rfl]
  go_wp2_with fail
  refine (order2_any g r.tail (1 + nx r 900) _ ht1).mono ?_
  rintro e w2 ⟨rfl, ht2, hg2⟩
  go_wp2_with fail
  refine (range_any g _ 1 900 _ ht2 (by omega) (by omega) (by omega)).mono ?_
  rintro e w3 ⟨rfl, ht3, hg3⟩
  simp only [show (900 : Int) - 1 + 1 = 900 from rfl]
  go_wp2_with fail
  refine (order2_any g _ (1 + nx r.tail.tail.tail.tail.tail 900) _ ht3).mono ?_
  rintro e w4 ⟨rfl, ht4, hg4⟩
  have b1 := nx_bd r 900 (by omega)
  have b2 := nx_bd r.tail.tail.tail.tail.tail 900 (by omega)
  have Hra := Lib.hid (mkO_right r.tail (1 + nx r 900) (by omega))
  have Hrb := Lib.hid (mkO_right r.tail.tail.tail.tail.tail.tail (1 + nx r.tail.tail.tail.tail.tail 900) (by omega))
  have Hb4 := Lib.hid (below_only (below_only (below_only (below_only hb0 hg1 hg hb0.size) hg2 hg (Nat.le_trans hb0.size hg1.size)) hg3 hg (by have := hb0.size; have := hg1.size; have := hg2.size; omega)) hg4 hg (by have := hb0.size; have := hg1.size; have := hg2.size; have := hg3.size; omega))
  have hs4 := Hb4.out.size
  clear ht ht1 ht2 ht3 ht4 hg1 hg2 hg3 hg4 hb0 hlt
  generalize mkO r.tail (1 + nx r 900) = a at *
  generalize mkO r.tail.tail.tail.tail.tail.tail (1 + nx r.tail.tail.tail.tail.tail 900) = b at *
  clear b1 b2
  go_wp2_with fail
  refine (recordP_any a _).mono ?_
  rintro e w5 ⟨va, rfl, hown5, hb5⟩
  rw [Hra.out] at hown5 ⊢
  simp only [if_true] at hown5
  obtain ⟨X, xc, rfl, hX⟩ := Sl8.of_own hown5 rfl (recB_bytes a)
  have hox := (OBoxes.new w4 a b).below hb5 (by simp; omega) (by simp)
  have hs5 : w4.heap.size + 1 < w5.heap.size := by have := hb5.size; simp at this; omega
  have Hb5 := Lib.hid (show Below w4.heap.size w4 w5 from (by repeat' (first | with_reducible exact Below.refl _ _ | with_reducible refine below_drewN ?_ _ | with_reducible refine Below.drew ?_ | with_reducible refine Below.alloc ?_ ?_ _ | with_reducible refine Below.setCell ?_ ?_ _ | with_reducible refine Below.trans ?_ (Below.mono (by with_reducible assumption) ?_) | (simp; done) | (simp; omega) | omega)))
  obtain ⟨⟨o0, o1, o2, o3⟩, q0, q1, q2, q3⟩ := hox.facts
  have Hox := Lib.hid hox
  have HX := Lib.hid hX
  clear hown5 hb5 hox hX
  go_wp2_with fail
  refine (recordP_any b _).mono ?_
  rintro e w6 ⟨vb, rfl, hown6, hb6⟩
  rw [Hrb.out] at hown6 ⊢
  simp only [if_true] at hown6
  obtain ⟨Y, yc, rfl, hY⟩ := Sl8.of_own hown6 rfl (recB_bytes b)
  have hox6 := Hox.out.below hb6 (by omega) (by omega)
  have hs6 : w4.heap.size + 1 < w6.heap.size := by have := hb6.size; omega
  have HX6 := Lib.hid (HX.out.below hb6)
  have HY := Lib.hid hY
  have Hb56 := Lib.hid (show Below w5.heap.size w5 w6 from hb6)
  have Hb6 := Lib.hid (show Below w.heap.size w w6 from (Hb4.out.trans (Hb5.out.mono hs4)).trans (hb6.mono (by omega)))
  obtain ⟨⟨o0', o1', o2', o3'⟩, q0', q1', q2', q3'⟩ := hox6.facts
  clear hown6 hb6 hY hox6 o0 o1 o2 o3 q0 q1 q2 q3
  obtain ⟨x, y, hx1, hy1, hx2, hy2, hsum⟩ := rec_tail a
  have hcx := HX6.out.cap
  have hlx : (recB a).length = 28 := recB_len a
  have hly : (recB b).length = 28 := recB_len b
  obtain ⟨xb, xo, rfl, hxlt, hxcell⟩ := HX6.out.lies.resolve_left (by rw [hlx]; decide)
  have cx := hxcell 26 (.int .u8 x) (by rw [List.getElem?_map, hx1]; rfl)
  have cy := hxcell 27 (.int .u8 y) (by rw [List.getElem?_map, hy1]; rfl)
  have HS := Lib.hid (fun W h => sumP_any (some ⟨xb, xo, none⟩) 26 xc ((recB a).take 26) W (by rw [List.length_take, hlx]; rfl) (by decide) ((recB_bytes a).take 26) h)
  have HL26 := Lib.hid (HX6.out.take 26 (by rw [hlx]; decide))
  rw [hlx] at hcx HX6 ⊢
  rw [hly] at HY ⊢
  rw [hsum] at HS
  have Hsum := Lib.hid hsum
  clear hsum hx1 hy1 hlx hly hxcell
  have i26 : (26 : Int) ≤ (xc : Int) := by omega
  have hor : bits .or .i64 (wrap64 (x * 256)) y = 256 * x + y := by
    have := or_w64 x y hx2.1 hy2.1 hy2.2
    have e1 : wrap64 (wrap64 x * 256) = wrap64 (x * 256) := by unfold wrap64; omega
    rw [e1] at this
    rw [this]
    unfold wrap64
    omega
  have hor2 : bits .or .i64 (x * 256) y = 256 * x + y := by
    have e1 : wrap64 (x * 256) = x * 256 := by unfold wrap64; omega
    rw [e1] at hor
    exact hor
  go_upto_region 5 with fail
  go_quiet ((go_at_call 25; exact quiet_left (HS.out _ HL26.out.lies)))
  go_upto_region 7 with fail
  have HX7 := Lib.hid (HX6.out.below (below_drewN (Below.refl w6.heap.size w6) nq))
  have HY7 := Lib.hid (HY.out.below (below_drewN (Below.refl w6.heap.size w6) nq))
  have Hb7 := Lib.hid (below_drewN Hb6.out nq)
  have hz7 : w4.heap.size + 1 < (w6.drewN nq).heap.size := hs6
  have hox7 : OBoxes (w6.drewN nq) w4.heap.size (w4.heap.size + 1) a b := Hox.out.below (below_drewN (show Below w5.heap.size w5 w6 from Hb56.out) nq) (by omega) (by omega)
  obtain ⟨⟨o0, o1, o2, o3⟩, q0, q1, q2, q3⟩ := hox7.facts
  generalize w6.drewN nq = w7 at *
  clear o0' o1' o2' o3' q0' q1' q2' q3' hox7 cx cy
  have hz7' : w4.heap.size < w7.heap.size := by omega
  have hnq := ord_eql
  have hgd := ordGuard
  have Hstr := Lib.hid (str_iff (recB_bytes a) (recB_bytes b))
  have Hinj := Lib.hid (rec_inj a b Hra.out Hrb.out)
  have Hoe := Lib.hid (ordEq_iff a b)
  have hc1 := fun (W : World) (hW : Below w7.heap.size w7 W) => conv8 (HX7.out.below hW)
  have hc2 := fun (W : World) (hW : Below w7.heap.size w7 W) => conv8 (HY7.out.below hW)
  have Hc1 := Lib.hid hc1
  have Hc2 := Lib.hid hc2
  clear hc1 hc2
  by_cases hab : a = b
  · have hoe : ordEq a.n a.f a.a a.d b.n b.f b.a b.d = true := Hoe.out.2 hab
    have hst : (strOfNums (recB a)).toList = (strOfNums (recB b)).toList := by rw [hab]
    have hst2 : ((strOfNums (recB a)).toList == (strOfNums (recB b)).toList) = true := by simp [hst]
    clear hab
    generalize strOfNums (recB a) = s1 at *
    generalize strOfNums (recB b) = s2 at *
    refine wp_region_below w7.heap.size (Nat.le_refl _) (by kernel_rfl) (by kernel_rfl) ?_
    intro I _ F hFc hFb hFs
    have k1 := fun i => Hc1.out (F i) (hFb i)
    have k2 := fun i => Hc2.out (F i) (hFb i)
    repeat (go_big_quiet_step ((first
      | (go_at_call 18; exact class_call hFb hFs (Nat.le_refl _) (awake_any _)))))
    refine wpQuiet_nil ?_
    rintro _ ⟨iq, rfl⟩
    go_wp2
    go_ret
    exact ⟨rfl, Hb7.out.trans ((hFb iq).mono Hb7.out.size)⟩
  · have hoe : ordEq a.n a.f a.a a.d b.n b.f b.a b.d = false := by
      cases h : ordEq a.n a.f a.a a.d b.n b.f b.a b.d
      · rfl
      · exact absurd (Hoe.out.1 h) hab
    have hst : ¬ (strOfNums (recB a)).toList = (strOfNums (recB b)).toList := fun h => hab (Hinj.out.1 (Hstr.out.1 h))
    have hst2 : ((strOfNums (recB a)).toList == (strOfNums (recB b)).toList) = false := by simp [hst]
    have Hst := Lib.hid hst
    clear hab hst
    generalize strOfNums (recB a) = s1 at *
    generalize strOfNums (recB b) = s2 at *
    refine wp_region_below w7.heap.size (Nat.le_refl _) (by kernel_rfl) (by kernel_rfl) ?_
    intro I _ F hFc hFb hFs
    have k1 := fun i => Hc1.out (F i) (hFb i)
    have k2 := fun i => Hc2.out (F i) (hFb i)
    repeat (go_big_quiet_step ((first
      | (go_at_call 18; exact class_call hFb hFs (Nat.le_refl _) (awake_any _)))))
    refine wpQuiet_nil ?_
    rintro _ ⟨iq, rfl⟩
    go_wp2
    go_ret
    exact ⟨rfl, Hb7.out.trans ((hFb iq).mono Hb7.out.size)⟩
end Go.Proofs.Ytbkfdpdcnjecbaa
