/- Contract: Orders (reference). -/
import Derived.Test.YtbkfdpdcnjecbaaRa
import Derived.Test.YtbkfdpdcnjecbaaP3
import Derived.Test.YtbkfdpdcnjecbaaTt
import Derived.Test.YtbkfdpdcnjecbaaQ
namespace Go.Proofs.Ytbkfdpdcnjecbaa
open Go.RowKit
set_option linter.unusedVariables false

theorem seg_take (r : List Int) (k : Nat) (h : k < 5) : seg (r.take 28) k = seg r k := by
  have := atF_le k h
  unfold seg
  rw [List.drop_take, List.take_take]
  congr 1
  omega
/-- A part of a slice of bytes. -/
theorem Lies.part {w : World} {A : Option Addr} {n : Nat} {l : List Int} (h : Lies w A n (l.map (.int .u8))) {b off : Nat} (hA : A = some ⟨b, off, none⟩) (i j : Nat) (hn : 0 < n) : Lies w (some ⟨b, off + i, none⟩) j (((l.drop i).take j).map (.int .u8)) := by
  obtain ⟨b', off', e, hlt, hcell⟩ := h.resolve_left (by omega)
  rw [hA] at e
  injection e with e
  injection e with e1 e2
  subst e1
  subst e2
  refine .inr ⟨b, off + i, rfl, hlt, fun q u hu => ?_⟩
  rw [Nat.add_assoc]
  refine hcell (i + q) u ?_
  rw [List.map_take, List.getElem?_take] at hu
  split at hu
  · rw [← hu, List.map_drop, List.getElem?_drop]
  · cases hu

set_option maxHeartbeats 2000000 in
theorem ordersR_any (A B : Option Addr) (n c m d : Nat) (xs ys : List Int) (w : World) (hs : n ≤ 100000 ∧ m ≤ 100000) (hA : Sl8 w A n c xs) (hB : Sl8 w B m d ys) :
    Calls Try.prog 28 #[.agg #[.slice A n c, .slice B m d]] w (OrdsPost w (ordsB (xs ++ ys)).1 (ordsB (xs ++ ys)).2.length) := by
  obtain ⟨i0, hi, hz0, hz1, hz2⟩ := info_parts Try.infoOrder
  have HA := Lib.hid hA
  have HB := Lib.hid hB
  clear hA hB
  go_enter Try.func28, Try.ntmps28
  go_wp2_with fail
  refine (allR_any A B n c m d xs ys _ hs (HA.out.below (by repeat' (first | with_reducible exact Below.refl _ _ | with_reducible refine below_drewN ?_ _ | with_reducible refine Below.drew ?_ | with_reducible refine Below.alloc ?_ ?_ _ | with_reducible refine Below.setCell ?_ ?_ _ | with_reducible refine Below.trans ?_ (Below.mono (by with_reducible assumption) ?_) | (simp; done) | (simp; omega) | omega))) (HB.out.below (by repeat' (first | with_reducible exact Below.refl _ _ | with_reducible refine below_drewN ?_ _ | with_reducible refine Below.drew ?_ | with_reducible refine Below.alloc ?_ ?_ _ | with_reducible refine Below.setCell ?_ ?_ _ | with_reducible refine Below.trans ?_ (Below.mono (by with_reducible assumption) ?_) | (simp; done) | (simp; omega) | omega)))).mono ?_
  rintro e w2 hput
  obtain ⟨v2, rfl, hown, hb2⟩ := id hput
  obtain ⟨C, q, rfl, hC, hCb⟩ := put_slice hput (HA.out.byt.app HB.out.byt)
  have hbw : Below w.heap.size w w2 := (by repeat' (first | with_reducible exact Below.refl _ _ | with_reducible refine below_drewN ?_ _ | with_reducible refine Below.drew ?_ | with_reducible refine Below.alloc ?_ ?_ _ | with_reducible refine Below.setCell ?_ ?_ _ | with_reducible refine Below.trans ?_ (Below.mono (by with_reducible assumption) ?_) | (simp; done) | (simp; omega) | omega))
  have hs2 := hbw.size
  have Hlen : Hid ((xs ++ ys).length = n + m) := by
    show (xs ++ ys).length = n + m
    rw [List.length_append, HA.out.len, HB.out.len]
  have HC := Lib.hid hC
  clear hput hC hb2 hCb hown
  generalize hxy : xs ++ ys = l at *
  clear hxy
  obtain ⟨N, hN⟩ : ∃ N, N = l.length := ⟨_, rfl⟩
  rw [← hN] at HC ⊢
  have HN := Lib.hid hN
  have hNs : N ≤ 200000 := by rw [hN, Hlen.out]; omega
  have hNq := HC.out.cap
  have hqm := HC.out.top
  unfold maxLen at hqm
  clear hN Hlen
  go_wp2
  go_loopw [5, 6] (fun o at_ wr => ∃ (acc : List Ord4) (k : Nat), acc.length * 28 ≤ N ∧ N ≤ k + acc.length * 28 ∧ at_ = .int .i64 ((acc.length * 28 : Nat) : Int) ∧ wr.ownsRow w2.heap.size 32 4 o acc.length (ordCells acc) ∧ ordsA k acc (l.drop (acc.length * 28)) = ordsB l ∧ Below w2.heap.size w2 wr) (fun _ at_ _ => N - (intOf at_).toNat)
  case atStart => exact ⟨[], N, by simp, by simp, rfl, World.ownsRow_nil _ _ _ _, by rw [HN.out]; rfl, Below.refl _ _⟩
  case round =>
    obtain ⟨acc, k, hle, hk, rfl, hown, hrun, hbr⟩ := hrel
    have Hown := Lib.hid hown
    have Hrun := Lib.hid hrun
    have hsz := hbr.size
    clear hown hrun
    obtain ⟨at_, hat⟩ : ∃ a, a = acc.length * 28 := ⟨_, rfl⟩
    rw [← hat] at hle hk Hrun ⊢
    have Hat := Lib.hid hat
    have hacc : acc.length ≤ 200000 := by omega
    clear hat
    have Hr : Hid ((l.drop at_).length = N - at_) := by
      show (l.drop at_).length = N - at_
      rw [List.length_drop, HN.out]
    by_cases h28 : at_ + 28 ≤ N
    · obtain ⟨b, off, rfl, hbl, hcell⟩ := HC.out.lies.resolve_left (by omega)
      have HCr := Lib.hid (HC.out.below hbr)
      have hbl' : b < wr.heap.size := by omega
      have hbys : Bytes (l.drop at_) := HC.out.byt.drop _
      have Hstep := Lib.hid (ordsA_step k acc (l.drop at_))
      have Hstop := Lib.hid (ordsA_stop k acc (l.drop at_))
      have Htk : Hid (takes acc (l.drop at_) = (okB ((l.drop at_).take 28) && decide (lastN acc < (ordOf ((l.drop at_).take 28)).n))) := by
        show takes acc (l.drop at_) = _
        unfold takes
        rw [Hr.out, decide_eq_true (by omega), Bool.true_and]
      have L1 : ∀ i j, Lies wr (some ⟨b, off + at_ + i, none⟩) j (((l.drop (at_ + i)).take j).map (.int .u8)) := fun i j => by
        have := HCr.out.lies.part rfl (at_ + i) j (by omega)
        rwa [← Nat.add_assoc] at this
      have L2 : ∀ k, k < 5 → Lies wr (some ⟨b, off + at_ + atF k, none⟩) (wdF k) ((seg (l.drop at_) k).map (.int .u8)) := fun k hk => by
        have := L1 (atF k) (wdF k)
        rw [← List.drop_drop] at this
        exact this
      have hl26 : Lies wr (some ⟨b, off + at_, none⟩) 26 (((l.drop at_).take 26).map (.int .u8)) := L1 0 26
      generalize hrr : l.drop at_ = r at *
      have Hrr := Lib.hid hrr
      have hr28 : 28 ≤ r.length := by rw [Hr.out]; omega
      have hseg : ∀ k, k < 5 → (seg r k).length = wdF k := fun k hk => by
        have := atF_le k hk
        simp [seg]
        omega
      have G0 := Lib.hid (fun W h => getR_any (some ⟨b, off + at_, none⟩) 8 (q - at_) (seg r 0) W (hseg 0 (by omega)) (by omega) ((hbys.drop _).take _) h)
      have G1 := Lib.hid (fun W h => getR_any (some ⟨b, off + at_ + 8, none⟩) 2 (q - at_ - 8) (seg r 1) W (hseg 1 (by omega)) (by omega) ((hbys.drop _).take _) h)
      have G2 := Lib.hid (fun W h => getR_any (some ⟨b, off + at_ + 10, none⟩) 8 (q - at_ - 10) (seg r 2) W (hseg 2 (by omega)) (by omega) ((hbys.drop _).take _) h)
      have G3 := Lib.hid (fun W h => getR_any (some ⟨b, off + at_ + 18, none⟩) 8 (q - at_ - 18) (seg r 3) W (hseg 3 (by omega)) (by omega) ((hbys.drop _).take _) h)
      have G4 := Lib.hid (fun W h => getR_any (some ⟨b, off + at_ + 26, none⟩) 2 (q - at_ - 26) (seg r 4) W (hseg 4 (by omega)) (by omega) ((hbys.drop _).take _) h)
      have GS := Lib.hid (fun W h => sumR_any (some ⟨b, off + at_, none⟩) 26 (q - at_) (r.take 26) W (by rw [List.length_take]; omega) (by decide) (hbys.take _) h)
      have L20 := Lib.hid (L2 0 (by omega))
      have L21 := Lib.hid (L2 1 (by omega))
      have L22 := Lib.hid (L2 2 (by omega))
      have L23 := Lib.hid (L2 3 (by omega))
      have L24 := Lib.hid (L2 4 (by omega))
      have L26 := Lib.hid hl26
      have Ho : Hid (ordOf (r.take 28) = ⟨numS (seg r 0), numS (seg r 1), numS (seg r 2), numS (seg r 3)⟩) := by
        show ordOf (r.take 28) = _
        unfold ordOf
        rw [seg_take r 0 (by omega), seg_take r 1 (by omega), seg_take r 2 (by omega), seg_take r 3 (by omega)]
      have Hok : Hid (okB (r.take 28) = ((numS (seg r 4) == sumB (r.take 26)) && rightB (ordOf (r.take 28)))) := by
        show okB (r.take 28) = _
        unfold okB
        rw [seg_take r 4 (by omega), List.take_take]
        rfl
      have hsb := sumB_bd (r.take 26) (hbys.take _)
      have hwf := ord_wf (r.take 28)
      generalize okB (r.take 28) = ok at *
      generalize ordOf (r.take 28) = o at *
      generalize numS (seg r 0) = x0 at *
      generalize numS (seg r 1) = x1 at *
      generalize numS (seg r 2) = x2 at *
      generalize numS (seg r 3) = x3 at *
      generalize numS (seg r 4) = x4 at *
      generalize sumB (r.take 26) = x5 at *
      clear hl26 L1 L2 hseg hrr hcell
      have hq1 : ((at_ : Int) + 28) ≤ (q : Int) := by omega
      go_upto_region 6 with fail
      have hc7 : 28 ≤ q - at_ := by omega
      have e28 : at_ + 28 - at_ = 28 := by omega
      rw [e28]
      clear e28
      generalize q - at_ = c7 at *
      have i8 : (8 : Int) ≤ (c7 : Int) := by omega
      have i10 : (10 : Int) ≤ (c7 : Int) := by omega
      have i18 : (18 : Int) ≤ (c7 : Int) := by omega
      have i26 : (26 : Int) ≤ (c7 : Int) := by omega
      have i28 : (28 : Int) ≤ (c7 : Int) := by omega
      have j8 : ¬ c7 = 8 := by omega
      have j10 : ¬ c7 = 10 := by omega
      have j18 : ¬ c7 = 18 := by omega
      have j26 : ¬ c7 = 26 := by omega
      go_cut [8] (fun s8 wz => s8 = .pointer (some ⟨wr.heap.size, 0, none⟩) ∧ wz.heap[wr.heap.size]? = some (.cells #[.int .i64 x0, .int .i64 x1, .int .i64 x2, .int .i64 x3] 32 (0, 0)) ∧ Below wr.heap.size wr wz)
      case first =>
        go_region_held3 (fun _ => True)
          (trivial)
          (first
            | (go_at_call 41; (with_reducible refine (G0.out _ ?_).mono ?_); (first | exact L20.out | exact L20.out.alloc _); rintro e w' ⟨rfl, rfl⟩)
            | (go_at_call 41; (with_reducible refine (G1.out _ ?_).mono ?_); (first | exact L21.out | exact L21.out.alloc _); rintro e w' ⟨rfl, rfl⟩)
            | (go_at_call 41; (with_reducible refine (G2.out _ ?_).mono ?_); (first | exact L22.out | exact L22.out.alloc _); rintro e w' ⟨rfl, rfl⟩)
            | (go_at_call 41; (with_reducible refine (G3.out _ ?_).mono ?_); (first | exact L23.out | exact L23.out.alloc _); rintro e w' ⟨rfl, rfl⟩))
        all_goals
          go_wp2
          go_meet
          case rel => exact ⟨rfl, heap_alloc_new wr _, (by repeat' (first | with_reducible exact Below.refl _ _ | with_reducible refine below_drewN ?_ _ | with_reducible refine Below.drew ?_ | with_reducible refine Below.alloc ?_ ?_ _ | with_reducible refine Below.setCell ?_ ?_ _ | with_reducible refine Below.trans ?_ (Below.mono (by with_reducible assumption) ?_) | (simp; done) | (simp; omega) | omega))⟩
      case rest =>
        obtain ⟨wz, rfl⟩ : ∃ wz : World, wz = wc := ⟨_, rfl⟩
        obtain ⟨rfl, hbx, hbz⟩ := hcut
        have hsz2 := hbz.size
        have hsz3 : wr.heap.size < wz.heap.size := by
          rcases Nat.lt_or_ge wr.heap.size wz.heap.size with h | h
          · exact h
          · rw [Array.getElem?_eq_none h] at hbx; cases hbx
        have y0 : wz.cell? ⟨wr.heap.size, 0, none⟩ = some (.int .i64 x0) := cell_of_row wz _ 0 _ _ _ hbx
        have y1 : wz.cell? ⟨wr.heap.size, 1, none⟩ = some (.int .i64 x1) := cell_of_row wz _ 1 _ _ _ hbx
        have y2 : wz.cell? ⟨wr.heap.size, 2, none⟩ = some (.int .i64 x2) := cell_of_row wz _ 2 _ _ _ hbx
        have y3 : wz.cell? ⟨wr.heap.size, 3, none⟩ = some (.int .i64 x3) := cell_of_row wz _ 3 _ _ _ hbx
        have Hownz := Lib.hid (ownsRow_below Hown.out hbz)
        have Hbx := Lib.hid hbx
        have Hbz := Lib.hid hbz
        have L24z := Lib.hid (L24.out.below hbz)
        have L26z := Lib.hid (L26.out.below hbz)
        have hon : Hid (o.n = x0) := by show o.n = x0; rw [Ho.out]
        clear hbx hbz
        go_upto_region 7 with fail
        go_cut [62] (fun s62 wy => s62 = .bool (!(takes acc r)) ∧ Below wz.heap.size wz wy)
        case first =>
          by_cases he : x5 = x4
          · have hb1 : (x5 != x4) = false := by simp [he]
            have hb2 : Hid ((x4 == x5) = true) := by show (x4 == x5) = true; simp [he]
            clear he
            rcases hr4 : rightB ⟨x0, x1, x2, x3⟩ with _ | _
            · have Hend : Hid (takes acc r = false) := by
                show takes acc r = false
                rw [Htk.out, Hok.out, hb2.out, Ho.out, hr4]
                rfl
              have GR : Hid (∀ W : World, Calls Try.prog 42 #[.agg #[.int .i64 x0, .int .i64 x1, .int .i64 x2, .int .i64 x3]] W fun e w' => e = .returned (.bool false) ∧ Below W.heap.size W w') := fun W => by
                have := rightR_any ⟨x0, x1, x2, x3⟩ W
                rw [hr4] at this
                exact this
              clear hr4
              refine wp_region_below wz.heap.size (Nat.le_refl _) (by kernel_rfl) (by kernel_rfl) ?_
              intro I _ F hFc hFb hFs
              repeat (go_big_quiet_step ((first
                | (go_at_call 32; exact class_same (GS.out _ (L26z.out.below (hFb _))))
                | (go_at_call 41; exact class_same (G4.out _ (L24z.out.below (hFb _))))
                | (go_at_call 42; exact class_call hFb hFs (Nat.le_refl _) (GR.out _)))))
              refine wpQuiet_nil ?_
              rintro _ ⟨iq, rfl⟩
              go_wp2
              go_meet
              case rel => exact ⟨by rw [Hend.out]; rfl, hFb iq⟩
            · have GR : Hid (∀ W : World, Calls Try.prog 42 #[.agg #[.int .i64 x0, .int .i64 x1, .int .i64 x2, .int .i64 x3]] W fun e w' => e = .returned (.bool true) ∧ Below W.heap.size W w') := fun W => by
                have := rightR_any ⟨x0, x1, x2, x3⟩ W
                rw [hr4] at this
                exact this
              have Htk1 : Hid (takes acc r = decide (lastN acc < x0)) := by
                show takes acc r = decide (lastN acc < x0)
                rw [Htk.out, Hok.out, hb2.out, Ho.out, hr4]
                rfl
              have hx0 : 1 ≤ x0 := ((rightB_iff _).1 hr4).1.1
              clear hr4
              by_cases hac : acc = []
              · have Hend : Hid (takes acc r = true) := by
                  show takes acc r = true
                  rw [Htk1.out, hac]
                  exact decide_eq_true (show (0 : Int) < x0 by omega)
                have hu5 : u5 = .slice none 0 0 ∨ ∃ g cp, u5 = .slice (some ⟨g, 0, none⟩) 0 cp := by
                  rcases Hownz.out.2 with ⟨h, _⟩ | ⟨g, cp, cur, h, _⟩
                  · exact .inl h
                  · exact .inr ⟨g, cp, by rw [h, hac]; rfl⟩
                clear hac
                rcases hu5 with rfl | ⟨g, cp, rfl⟩
                all_goals
                  refine wp_region_below wz.heap.size (Nat.le_refl _) (by kernel_rfl) (by kernel_rfl) ?_
                  intro I _ F hFc hFb hFs
                  repeat (go_big_quiet_step ((first
                    | (go_at_call 32; exact class_same (GS.out _ (L26z.out.below (hFb _))))
                    | (go_at_call 41; exact class_same (G4.out _ (L24z.out.below (hFb _))))
                    | (go_at_call 42; exact class_call hFb hFs (Nat.le_refl _) (GR.out _)))))
                  refine wpQuiet_nil ?_
                  rintro _ ⟨iq, rfl⟩
                  go_wp2
                  go_meet
                  case rel => exact ⟨by rw [Hend.out]; rfl, hFb iq⟩
              · obtain ⟨g, cp, hg5, _⟩ := Hownz.out.form (List.length_pos_iff.2 hac)
                have Hac := Lib.hid hac
                have hpos : 0 < acc.length := List.length_pos_iff.2 hac
                subst hg5
                have hlz := Lies.of_own Hownz.out
                have hi1 : acc.length - 1 < acc.length := by omega
                obtain ⟨b', off', hA', hbl2, z0, zz⟩ := lies_ord hlz (acc.length - 1) hi1 hi1
                injection hA' with hA'
                injection hA' with e1 e2
                subst e1
                subst e2
                have Hlast : Hid (lastN acc = acc[acc.length - 1].n) := by
                  show lastN acc = acc[acc.length - 1].n
                  unfold lastN
                  rw [List.getLast?_eq_getElem?, List.getElem?_eq_getElem hi1]
                rw [← Hlast.out, Nat.zero_add] at z0
                clear hac hlz Hlast zz hi1
                have hlen0 : (0 : Int) ≤ (acc.length : Int) - 1 := by omega
                have hlen1 : (acc.length : Int) - 1 < (acc.length : Int) := by omega
                generalize lastN acc = ln at *
                generalize acc.length = al at *
                by_cases hln : x0 ≤ ln
                all_goals
                  refine wp_region_below wz.heap.size (Nat.le_refl _) (by kernel_rfl) (by kernel_rfl) ?_
                  intro I _ F hFc hFb hFs
                  repeat (go_big_quiet_step ((first
                    | (go_at_call 32; exact class_same (GS.out _ (L26z.out.below (hFb _))))
                    | (go_at_call 41; exact class_same (G4.out _ (L24z.out.below (hFb _))))
                    | (go_at_call 42; exact class_call hFb hFs (Nat.le_refl _) (GR.out _)))))
                  refine wpQuiet_nil ?_
                  rintro _ ⟨iq, rfl⟩
                  go_wp2
                  go_meet
                  case rel => exact ⟨by rw [Htk1.out]; first | (simp [hln]; done) | (simp; omega), hFb iq⟩
          · have hb1 : (x5 != x4) = true := by simp [he]
            have Hend : Hid (takes acc r = false) := by
              show takes acc r = false
              rw [Htk.out, Hok.out, show (x4 == x5) = false from by simp; exact fun h => he h.symm]
              rfl
            clear he
            go_quiet ((first
              | (go_at_call 32; exact quiet_left (GS.out _ L26z.out))
              | (go_at_call 41; exact quiet_left (G4.out _ L24z.out))))
            go_wp2
            go_meet
            case rel => exact ⟨by rw [Hend.out]; rfl, below_drewN (Below.refl _ _) _⟩
        case rest =>
          obtain ⟨wy, rfl⟩ : ∃ wy : World, wy = wc := ⟨_, rfl⟩
          obtain ⟨rfl, hby⟩ := hcut
          have hsy := hby.size
          have Hby := Lib.hid hby
          have hbx2 := Lib.hid ((hby.block wr.heap.size hsz3).trans Hbx.out)
          have Hown3 := Lib.hid (ownsRow_below Hownz.out hby)
          have y0' := (hby.cell (p := ⟨wr.heap.size, 0, none⟩) hsz3).trans y0
          have y1' := (hby.cell (p := ⟨wr.heap.size, 1, none⟩) hsz3).trans y1
          have y2' := (hby.cell (p := ⟨wr.heap.size, 2, none⟩) hsz3).trans y2
          have y3' := (hby.cell (p := ⟨wr.heap.size, 3, none⟩) hsz3).trans y3
          clear hby y0 y1 y2 y3
          have Hby0 : Hid (Below w2.heap.size w2 wy) := hbr.trans ((Hbz.out.trans (Hby.out.mono hsz2)).mono hsz)
          rcases htk : takes acc r with _ | _
          · have Hend := Lib.hid htk
            clear htk
            go_wp2
            go_ret2
            refine ⟨u5, ?_, own_mono ?_ hs2, hbw.trans (Hby0.out.mono hs2)⟩
            · rw [← Hrun.out, Hstop.out Hend.out, Hr.out]
              go_num
            · rw [← Hrun.out, Hstop.out Hend.out]
              exact Hown3.out
          · have Hend := Lib.hid htk
            clear htk
            go_wp2_with (at_builtin
                         refine wpList_append_lies _ rfl _ _ 29 rfl w2.heap.size 32 i0 (.agg #[.int .i64 0, .int .i64 0, .int .i64 0, .int .i64 0]) 4 32 Try.underlying29 hi hz0 hz1 hz2 rfl (by omega) u5 acc.length (ordCells acc) rfl (Hown3.out.alloc _) ⟨wy.heap.size, 0, none⟩ 1 1 [.int .i64 x0, .int .i64 x1, .int .i64 x2, .int .i64 x3] rfl rfl (World.news_of_block (cs := #[.int .i64 x0, .int .i64 x1, .int .i64 x2, .int .i64 x3]) (t := 32) (fr := (0, 0)) (heap_alloc_new wy _)) (by simp [Value.oneCell']) (by omega) (by unfold maxLen; omega) (by omega) (by simp; omega) (wy.heap.size + 1) (by simp) ?_
                         intro gg cap w9 hown9 hgrow hat hltg)
            go_roundw
            case rel =>
              have hgr : (wy.alloc (Obj.cells #[Value.int IntKind.i64 x0, Value.int IntKind.i64 x1, Value.int IntKind.i64 x2, Value.int IntKind.i64 x3] 32)).grownBy w9 u5.ownBlock := hgrow
              obtain ⟨j, hj1, hj2⟩ := Hstep.out Hend.out (by rw [Hr.out]; omega)
              have hat2 : (acc ++ [o]).length * 28 = at_ + 28 := by rw [List.length_append, Hat.out]; simp; omega
              have hd : l.drop ((acc ++ [o]).length * 28) = r.drop 28 := by rw [hat2, ← Hrr.out, List.drop_drop]
              refine ⟨acc ++ [o], j, by rw [hat2]; exact h28, by rw [List.length_drop, Hr.out] at hj1; rw [hat2]; omega, by rw [hat2]; go_num, ?_, ?_, ?_⟩
              · rw [ordCells_snoc, List.length_append, Ho.out]
                exact hown9
              · rw [hd, ← Hrun.out, hj2]
              · have hby0 := Hby0.out
                exact Below.grown ((by repeat' (first | with_reducible exact Below.refl _ _ | with_reducible assumption | with_reducible refine below_drewN ?_ _ | with_reducible refine Below.drew ?_ | with_reducible refine Below.alloc ?_ ?_ _ | with_reducible refine Below.setCell ?_ ?_ _ | with_reducible refine Below.trans ?_ (Below.mono (by with_reducible assumption) ?_) | with_reducible refine below_only ?_ (by with_reducible assumption) ?_ ?_ | (simp; done) | (simp; omega) | omega))) hgr (by simp; omega) (own_base Hown3.out)
            case measure => simp [intOf]; omega
    · have Htk : Hid (takes acc (l.drop at_) = false) := takes_short acc _ (by rw [Hr.out]; omega)
      go_wp2
      go_ret2
      refine ⟨u5, ?_, own_mono ?_ hs2, hbw.trans (hbr.mono hs2)⟩
      · rw [← Hrun.out, ordsA_stop k acc _ Htk.out, Hr.out]
        go_num
      · rw [← Hrun.out, ordsA_stop k acc _ Htk.out]
        exact Hown.out
end Go.Proofs.Ytbkfdpdcnjecbaa
