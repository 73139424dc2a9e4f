/- How rows of rows of corners that can be read are opened. -/
import Derived.ProofKit
import Derived.Deep.Slices
import Derived.Test.YtpcfhcdbibklcaaGreatAA
import Derived.Test.YtpcfhcdbibklcaaGreatAH
import Derived.Test.YtpcfhcdbibklcaaGreatAJ
import Derived.Test.YtpcfhcdbibklcaaGreatAK
import Derived.Test.YtpcfhcdbibklcaaGreatAL
namespace Go.Proofs.YtpcfhcdbibklcaaGreat
open Go.RowKit Go.Shelf
set_option linter.unusedVariables false
set_option linter.unusedSimpArgs false

theorem FewPts.lens {rs : List (List Pt)} (h : FewPts rs) (ha : ∀ r ∈ rs, ringP r = 0) : ∀ r ∈ rs, r.length ≤ 100000 := fun r hr => by
  have h1 := h ha
  have h2 : r.length ≤ (rs.map List.length).sum := by
    clear h h1 ha
    induction rs with
    | nil => cases hr
    | cons a t ih =>
      rw [List.map_cons, List.sum_cons]
      rcases List.mem_cons.1 hr with rfl | hr
      · omega
      · have := ih hr; omega
  omega
theorem FewPts.walls {rs : List (List Pt)} (h : FewPts rs) (ha : ∀ r ∈ rs, ringP r = 0) : (wallsL rs).length ≤ 2000 := by
  have h1 := h ha
  have h2 := wallsL_len rs
  omega
/-- Few rectangles have few edges. -/
theorem level_few (v u : List (Sg Unit)) (y : Int) (hv : v.length ≤ 8) (hu : u.length ≤ 8) : (levelP v u y).length ≤ 2048 := by
  have h1 := choose_len2 notB (rr u) (rr v)
  have h2 := choose_len2 notB (rr v) (rr u)
  rw [rr_len, rr_len] at h1 h2
  have h3 : (2 * (u.length + v.length)) * (2 * (u.length + v.length)) ≤ 32 * 32 := Nat.mul_le_mul (by omega) (by omega)
  have h4 : (2 * (v.length + u.length)) * (2 * (v.length + u.length)) ≤ 32 * 32 := Nat.mul_le_mul (by omega) (by omega)
  rw [levelP_eq, List.length_append, lowE_len, highE_len]
  omega
theorem piece_few (l : List R4) (hl : l.length ≤ 8) (cuts : List Int) (i : Nat) : (pieceE l cuts i).length ≤ 2064 := by
  unfold pieceE
  have h1 := level_few (rowP l (cuts.getD i 0 - 1)) (rowP l (cuts.getD i 0)) (cuts.getD i 0) (by have := rowP_len l (cuts.getD i 0 - 1); omega) (by have := rowP_len l (cuts.getD i 0); omega)
  have h2 := walls_len2 (rowP l (cuts.getD i 0)) (cuts.getD i 0) (cuts.getD (i + 1) 0)
  have h3 := rowP_len l (cuts.getD i 0)
  rw [List.length_append]
  split
  · omega
  · simp only [List.length_nil]; omega
theorem edgesTo_few (l : List R4) (hl : l.length ≤ 8) (cuts : List Int) : ∀ j, (edgesTo l cuts j).length ≤ j * 2064
  | 0 => by simp [edgesTo]
  | j + 1 => by
    have h1 := edgesTo_few l hl cuts j
    have h2 := piece_few l hl cuts j
    rw [edgesTo_succ, List.length_append]
    omega
theorem edges_few (l : List R4) (hl : l.length ≤ 8) : (edgesP l).length ≤ 100000 := by
  unfold edgesP
  rw [edgesC_to]
  have h1 := edgesTo_few l hl (cutsP l) (cutsP l).length
  have h2 := cutsP_len l
  omega
/-- What Rings may be called with. -/
def EdgesOk (l : List R4) : Prop := validP l = true → (edgesP l).length ≤ 100000
theorem rings_any2 (A : Option Addr) (n c : Nat) (l : List R4) (w : World) (hA : SlR w A n c l) (hE : EdgesOk l) : Calls Tryz.prog 13 #[.agg #[.slice A n c]] w (RgPost w l) := by
  cases hv : validP l with
  | true => exact rings_good A n c l w hA hv (hE hv)
  | false => exact rings_bad A n c l w hA hv
/-- A broken region that is right after all lies within its side. -/
theorem brkP_in {a : List R4} {s : Nat} (h : InS s a) (k : Nat) (z : Int) : ∀ q ∈ brkP a k z, q.r ≤ s + 1 ∧ q.t ≤ s + 1 := by
  have h0 : ∀ q ∈ a, q.r ≤ s + 1 ∧ q.t ≤ s + 1 := fun q hq => by have := h q hq; omega
  have hb : ∀ q ∈ a, q.b ≤ s + 1 := fun q hq => by have := h q hq; omega
  intro q hq
  unfold brkP at hq
  cases ha : a[k]? with
  | none => rw [ha] at hq; exact h0 q hq
  | some p =>
    have hpm : p ∈ a := List.mem_of_getElem? ha
    have hp := h p hpm
    rw [ha] at hq
    dsimp only at hq
    split at hq
    · rcases List.mem_or_eq_of_mem_set hq with hq | rfl
      · exact h0 q hq
      · dsimp only; omega
    · split at hq
      · rcases List.mem_or_eq_of_mem_set hq with hq | rfl
        · exact h0 q hq
        · dsimp only; omega
      · split at hq
        · rcases List.mem_append.1 hq with hq | hq
          · exact h0 q hq
          · rw [List.mem_singleton] at hq
            subst hq
            exact h0 _ hpm
        · split at hq
          · cases ha0 : a[0]? with
            | none => rw [ha0] at hq; exact h0 q hq
            | some p0 =>
              have hp0 : p0 ∈ a := List.mem_of_getElem? ha0
              rw [ha0] at hq
              dsimp only at hq
              rcases List.mem_or_eq_of_mem_set hq with hq | rfl
              · rcases List.mem_or_eq_of_mem_set hq with hq | rfl
                · exact h0 q hq
                · exact h0 _ hpm
              · exact h0 _ hp0
          · rcases List.mem_or_eq_of_mem_set hq with hq | rfl
            · exact h0 q hq
            · dsimp only; omega
theorem mkBrk_edges (r : List Int) : EdgesOk (mkBrk r 8 4).1 := fun hv => by
  have hin : ∀ q ∈ (mkBrk r 8 4).1, q.r ≤ (8 : Nat) + 1 ∧ q.t ≤ (8 : Nat) + 1 := by
    have h1 : InS (8 : Nat) (mkReg r 8 4).1 := (mkReg_reg r 8 4 (by omega) (by omega) (by omega) (by omega)).ins
    have h2 : ∀ q ∈ (mkReg r 8 4).1, q.r ≤ (8 : Nat) + 1 ∧ q.t ≤ (8 : Nat) + 1 := fun q hq => by have := h1 q hq; omega
    unfold mkBrk
    split
    · exact h2
    · split
      · exact brkP_in h1 _ _
      · exact h2
  obtain ⟨_, hok, _⟩ := valid_parts hv
  have h3 := ok_in hok
  have h4 : InS (9 : Nat) (mkBrk r 8 4).1 := fun q hq => by
    have a := h3 q hq
    have b := hin q hq
    omega
  have := reg_len h4 (by omega)
  omega
set_option maxHeartbeats 4000000 in
set_option maxRecDepth 100000 in
theorem fill_any2 (A : Option Addr) (n c : Nat) (l : RgL) (w : World) (hA : SlRg w A n c l) (hsm : FewPts (rgPts l)) :
    Calls Tryz.prog 18 #[.slice A n c] w (RegPost w (fillV (rgPts l))) := by
  obtain ⟨i1, hj, hy0, hy1, hy2⟩ := info_parts Tryz.infoInt
  have hn := hA.len
  have HA := Lib.hid hA
  have hnr := rgPts_len l
  clear hA
  by_cases hbig : 60 < n
  · have hb' : (60 : Int) < (n : Int) := by omega
    have e0 : fillV (rgPts l) = ([], 1) := by unfold fillV; rw [if_pos (by omega)]
    rw [e0]
    clear e0 hsm
    go_enter Tryz.func18, Tryz.ntmps18
    go_wp2
    refine bodyPost_ret (v := .tuple #[.agg #[.slice none 0 0], .int .i64 1]) (by simp [results, Tryz.results18, go_sem, *]) rfl ?_
    exact ⟨_, rfl, World.ownsRow_nil _ _ _ _, (by repeat' (first | with_reducible exact Below.refl _ _ | with_reducible refine below_drewN ?_ _ | with_reducible refine Below.drew ?_ | with_reducible refine Below.alloc ?_ ?_ _ | with_reducible refine Below.setCell ?_ ?_ _ | with_reducible refine Below.trans ?_ (Below.mono (by with_reducible assumption) ?_) | (simp; done) | (simp; omega) | omega))⟩
  · have hb' : ¬ (60 : Int) < (n : Int) := by omega
    have HRg := Lib.hid (fun W (h : SlRg W A n c l) (i : Nat) (hi : i < l.length) => ring_any l[i].2.a l[i].1.length l[i].2.c l[i].1 W (h.fits _ (List.getElem_mem hi)))
    have Hbad : Hid (∀ i (hi : i < l.length), (∀ j (hj : j < l.length), j < i → ringP l[j].1 = 0) → ringP l[i].1 ≠ 0 → fillV (rgPts l) = ([], ringP l[i].1)) := Lib.hid fun i hi h1 h2 => by
      have e1 : fErr (rgPts l) = ringP l[i].1 := by
        have hi' : i < (rgPts l).length := by rw [hnr]; exact hi
        have g : (rgPts l)[i] = l[i].1 := by simp [rgPts]
        rw [← g]
        refine fErr_at hi' (fun j hj hji => ?_) (by rw [g]; exact h2)
        have := h1 j (by rw [← hnr]; exact hj) hji
        simpa [rgPts] using this
      unfold fillV
      rw [if_neg (by omega), if_pos (by rw [e1]; exact h2), e1]
    have Hgood : Hid ((∀ j (hj : j < l.length), ringP l[j].1 = 0) → fillV (rgPts l) = (if 120 < (fillR (wallsL (rgPts l))).length then ([], 1) else (fillR (wallsL (rgPts l)), 0)) ∧ (∀ Y, (xsAt (wallsL (rgPts l)) Y).length % 2 = 0) ∧ (∀ r ∈ rgPts l, r.length ≤ 100000) ∧ (wallsL (rgPts l)).length ≤ 2000) := Lib.hid fun h => by
      have hall : ∀ r ∈ rgPts l, ringP r = 0 := fun r hr => by
        obtain ⟨x, hx, rfl⟩ := List.mem_map.1 hr
        obtain ⟨j, hj, e⟩ := List.getElem_of_mem hx
        rw [← e]
        exact h j hj
      refine ⟨?_, rings_even hall, hsm.lens hall, hsm.walls hall⟩
      unfold fillV
      rw [if_neg (by omega), if_neg (by rw [fErr_zero.2 hall]; simp)]
    obtain ⟨x0, hx0⟩ : ∃ x0, fillV (rgPts l) = x0 := ⟨_, rfl⟩
    rw [hx0] at Hbad Hgood ⊢
    clear hsm hx0 hbig
    go_enter Tryz.func18, Tryz.ntmps18
    go_upto_region 3 with fail
    obtain ⟨w0, hw0⟩ : ∃ w0 : World, w0 = w.alloc (.cells #[.slice none 0 0] 25) := ⟨_, rfl⟩
    rw [← hw0]
    have hr0 : w0.heap[w.heap.size]? = some (.cells #[.slice none 0 0] 25 (0, 0)) := by rw [hw0]; exact heap_alloc_new w _
    have HR0 := Lib.hid hr0
    have HA0 : Hid (SlRg w0 A n c l) := Lib.hid (by rw [hw0]; exact HA.out.below (by repeat' (first | with_reducible exact Below.refl _ _ | with_reducible refine below_drewN ?_ _ | with_reducible refine Below.drew ?_ | with_reducible refine Below.alloc ?_ ?_ _ | with_reducible refine Below.setCell ?_ ?_ _ | with_reducible refine Below.trans ?_ (Below.mono (by with_reducible assumption) ?_) | (simp; done) | (simp; omega) | omega)))
    have Hb0 : Hid (Below w.heap.size w w0) := Lib.hid (by rw [hw0]; exact (by repeat' (first | with_reducible exact Below.refl _ _ | with_reducible refine below_drewN ?_ _ | with_reducible refine Below.drew ?_ | with_reducible refine Below.alloc ?_ ?_ _ | with_reducible refine Below.setCell ?_ ?_ _ | with_reducible refine Below.trans ?_ (Below.mono (by with_reducible assumption) ?_) | (simp; done) | (simp; omega) | omega)))
    have hs0 : w.heap.size < w0.heap.size := by rw [hw0]; simp
    clear hw0 hr0 HA
    go_wp2
    go_loopw [17] (fun iv wr => ∃ i : Nat, i ≤ n ∧ iv = .int .i64 (i : Int) ∧ Hid (∀ j (hj : j < l.length), j < i → ringP l[j].1 = 0) ∧ Below w0.heap.size w0 wr) (fun iv _ => n - (intOf iv).toNat)
    case atStart => exact ⟨0, Nat.zero_le _, rfl, Lib.hid (fun j _ h => by omega), Below.refl _ _⟩
    case round =>
      obtain ⟨i, hin, rfl, Hpre, hbr⟩ := hrel
      have hrr := (hbr.block _ hs0).trans HR0.out
      have hsr := hbr.size
      have Hbr := Lib.hid hbr
      clear hbr
      by_cases hiN : i < n
      · have hiN' : (i : Int) < (n : Int) := by omega
        have hil : i < l.length := by omega
        obtain ⟨b, off, rfl, hb, r0, -⟩ := (HA0.out.below Hbr.out).at i hil
        have HRi := Lib.hid (HRg.out _ (HA0.out.below Hbr.out) i hil)
        have Hb1 := Lib.hid (Hbad.out i hil Hpre.out)
        have Hnx : Hid (ringP l[i].1 = 0 → ∀ j (hj : j < l.length), j < i + 1 → ringP l[j].1 = 0) := Lib.hid fun h j hj hji => by
          rcases Nat.lt_or_ge j i with h1 | h1
          · exact Hpre.out j hj h1
          · have : j = i := by omega
            subst this
            exact h
        have hrc := ringP_cases l[i].1
        generalize l[i] = x at *
        obtain ⟨p, hv⟩ := x
        dsimp only at *
        obtain ⟨ev, hev⟩ : ∃ ev, ringP p = ev := ⟨_, rfl⟩
        rw [hev] at HRi Hb1 Hnx hrc
        clear hev HRg Hgood Hbad
        by_cases hev0 : ev = 0
        · subst hev0
          have Hnx2 := Lib.hid (Hnx.out rfl)
          go_wp2_with (first
            | (go_at_call 14
               refine HRi.out.mono ?_
               rintro e w1 ⟨rfl, hb1⟩
               have Hb2 : Hid (Below w0.heap.size w0 w1) := Lib.hid (Hbr.out.trans (hb1.mono hsr))
               clear hb1)
            | fail)
          go_roundw
          case rel => exact ⟨i + 1, by omega, by go_num, Hnx2, Hb2.out⟩
          case measure => simp [intOf]; omega
        · have Hx := Lib.hid (Hb1.out hev0)
          go_wp2_with (first
            | (go_at_call 14
               refine HRi.out.mono ?_
               rintro e w1 ⟨rfl, hb1⟩
               have Hb2 : Hid (Below w.heap.size w w1) := Lib.hid (Hb0.out.trans ((Hbr.out.trans (hb1.mono hsr)).mono (by omega)))
               have hr1 : w1.heap[w.heap.size]? = some (.cells #[.slice none 0 0] 25 (0, 0)) := (hb1.block _ (by omega)).trans hrr
               have cr1 := cell_of_row w1 w.heap.size 0 _ _ _ hr1
               have fr1 := frozen_of_row w1 w.heap.size 0 _ _ hr1
               have csame : (w1.setCell ⟨w.heap.size, 0, none⟩ (.slice none 0 0)).cell? ⟨w.heap.size, 0, none⟩ = some (.slice none 0 0) := (by rw [cell_of_row _ w.heap.size 0 _ _ _ (heap_setCell_same w1 w.heap.size 0 _ _ _ hr1)]; simp)
               clear hb1 hr1)
            | fail)
          refine bodyPost_ret (v := .tuple #[.agg #[.slice none 0 0], .int .i64 ev]) (by simp [results, Tryz.results18, go_sem, *]) rfl ?_
          rw [Hx.out]
          exact ⟨_, rfl, World.ownsRow_nil _ _ _ _, Hb2.out.setCell (Nat.le_refl _) _⟩
      · obtain rfl : i = n := by omega
        have hiN' : ¬ (i : Int) < (i : Int) := by omega
        obtain ⟨hx0, hev, hsl, htl⟩ := Hgood.out (fun j hj => Hpre.out j hj (by omega))
        have HW1 := Lib.hid (walls_any A _ c l _ (HA0.out.below Hbr.out) hsl (by omega))
        have Ht := Lib.hid htl
        clear hsl htl
        have Hx0 := Lib.hid hx0
        have Hev := Lib.hid hev
        obtain ⟨ws, hws⟩ : ∃ ws, wallsL (rgPts l) = ws := ⟨_, rfl⟩
        rw [hws] at Hx0 Hev Ht HW1
        clear hx0 hev hws Hbad Hgood HRg
        go_upto_region 11 with (first
          | (go_at_call 50
             refine HW1.out.mono ?_
             rintro e w1 ⟨v1, rfl, hown1, hb1⟩
             obtain ⟨WA, wc, rfl, hsw⟩ := SlW.of_own hown1
             obtain ⟨nw, hnw⟩ : ∃ nw, ws.length = nw := ⟨_, rfl⟩
             rw [hnw] at hsw
             rw [hnw]
             have hnw2 : nw ≤ 2000 := by have := Ht.out; omega
             have HS1 := Lib.hid hsw
             have Hb1 : Hid (Below w.heap.size w w1) := Lib.hid (Hb0.out.trans ((Hbr.out.trans (hb1.mono hsr)).mono (by omega)))
             have hr1 : w1.heap[w.heap.size]? = some (.cells #[.slice none 0 0] 25 (0, 0)) := (hb1.block _ (by omega)).trans hrr
             have Hr1 := Lib.hid hr1
             have hs1 : w.heap.size < w1.heap.size := by have := hb1.size; omega
             have Hnw := Lib.hid hnw
             clear hown1 hb1 hr1 hsw hnw)
          | fail)
        obtain ⟨w2, hw2⟩ : ∃ w2 : World, w2 = w1.alloc (.cells #[.slice WA nw wc] 89) := ⟨_, rfl⟩
        rw [← hw2]
        have hr2 : w2.heap[w1.heap.size]? = some (.cells #[.slice WA nw wc] 89 (0, 0)) := by rw [hw2]; exact heap_alloc_new w1 _
        have c2 := cell_of_row w2 w1.heap.size 0 _ _ _ hr2
        have HS2 : Hid (SlW w2 WA nw wc ws) := Lib.hid (by rw [hw2]; exact HS1.out.below (by repeat' (first | with_reducible exact Below.refl _ _ | with_reducible refine below_drewN ?_ _ | with_reducible refine Below.drew ?_ | with_reducible refine Below.alloc ?_ ?_ _ | with_reducible refine Below.setCell ?_ ?_ _ | with_reducible refine Below.trans ?_ (Below.mono (by with_reducible assumption) ?_) | (simp; done) | (simp; omega) | omega)))
        have Hb12 : Hid (Below w1.heap.size w1 w2) := Lib.hid (by rw [hw2]; exact (by repeat' (first | with_reducible exact Below.refl _ _ | with_reducible refine below_drewN ?_ _ | with_reducible refine Below.drew ?_ | with_reducible refine Below.alloc ?_ ?_ _ | with_reducible refine Below.setCell ?_ ?_ _ | with_reducible refine Below.trans ?_ (Below.mono (by with_reducible assumption) ?_) | (simp; done) | (simp; omega) | omega)))
        have hs2 : w1.heap.size < w2.heap.size := by rw [hw2]; simp
        have Hr2 : Hid (w2.heap[w.heap.size]? = some (.cells #[.slice none 0 0] 25 (0, 0))) := Lib.hid ((Hb12.out.block _ hs1).trans Hr1.out)
        have Hb2 : Hid (Below w.heap.size w w2) := Lib.hid (Hb1.out.trans (Hb12.out.mono (by omega)))
        clear hw2 hr2 HS1 hrr
        obtain ⟨X, hX⟩ : ∃ X, w1.heap.size = X := ⟨_, rfl⟩
        rw [hX] at c2 hs2 hs1 ⊢
        clear Hb12 hX Hr1 Hb1 HW1
        have hs2w := Hb2.out.size
        go_wp2
        go_loopw [8, 32] (fun cv iv wr => ∃ k : Nat, k ≤ nw ∧ iv = .int .i64 (k : Int) ∧ wr.ownsRow w2.heap.size 3 1 cv (yWs (ws.take k)).length ((yWs (ws.take k)).map (.int .i64)) ∧ Below w2.heap.size w2 wr) (fun _ iv _ => nw - (intOf iv).toNat)
        case atStart => exact ⟨0, Nat.zero_le _, rfl, World.ownsRow_nil _ _ _ _, Below.refl _ _⟩
        case round =>
          obtain ⟨k, hk, rfl, hown, hbk⟩ := hrel
          have Hown := Lib.hid hown
          have Hbk := Lib.hid hbk
          have hsk := hbk.size
          clear hown hbk
          by_cases hkn : k < nw
          · have hkn' : (k : Int) < (nw : Int) := by omega
            have hkl : k < ws.length := by have := Hnw.out; omega
            obtain ⟨b, off, rfl, hb, d0, d1, d2⟩ := (HS2.out.below Hbk.out).at k hkl
            have hlen : (yWs (ws.take k)).length ≤ 100000 := by rw [yWs_len, List.length_take]; omega
            have Hn2 : Hid (ws.take (k + 1) = ws.take k ++ [ws[k]]) := Lib.hid (List.take_succ_eq_append_getElem hkl)
            generalize ws[k] = q at *
            generalize ws.take k = dn at *
            obtain ⟨qx, ql, qh⟩ := q
            dsimp only at *
            go_wp2_with (first
              | (at_builtin
                 go_loud (refine wpList_append_any _ rfl (.tmp 36) (.tmp 41) _ rfl w2.heap.size 3 i1 _ 1 8 Tryz.underlying22 hj hy0 hy1 hy2 rfl (by omega) _ (yWs dn).length ((yWs dn).map (.int .i64)) rfl ((Hown.out.alloc _).alloc _) _ _ 2 2 [.int .i64 ql, .int .i64 qh] rfl ⟨rfl, fun _ => ⟨_, rfl, Nat.lt_succ_self _, fun j u hu => (by exact World.news_of_block (heap_alloc2_new wr _ (.cells #[.int .i64 ql, .int .i64 qh] 3)) j u hu)⟩⟩ (by simp [Value.oneCell']) (by simp only [maxLen]; omega) (by omega) (by simp; omega) ?_)
                 intro v5 w5 hown5 hg5 hat5)
              | fail)
            go_roundw
            case rel =>
              refine ⟨k + 1, by omega, by go_num, ?_, ?_⟩
              · rw [Hn2.out, yWs_snoc, List.length_append, List.map_append]
                exact hown5
              · exact Below.grown (((Hbk.out.alloc hsk _).alloc (by simp; omega) _)) hg5 (by simp; omega) (own_base Hown.out)
            case measure => simp [intOf]; omega
          · obtain rfl : k = nw := by omega
            have hkn' : ¬ (k : Int) < (k : Int) := by omega
            have Hown1 : Hid (wr.ownsRow w2.heap.size 3 1 u8 (yWs ws).length ((yWs ws).map (.int .i64))) := Lib.hid (by have := Hown.out; rw [List.take_of_length_le (by have := Hnw.out; omega)] at this; exact this)
            have hyl := yWs_len ws
            rw [Hnw.out] at hyl
            have hub := Lib.hid (own_base Hown1.out)
            have Hasc : Hid (asc (yWs ws) = Lib.compact (srt (yWs ws))) := Lib.hid rfl
            have hascl := (asc_all (yWs ws)).2.2
            have hsrl := srt_len (yWs ws)
            have Hfr : Hid (buildP (fun y => crossP (srt (xsAt ws y))) (asc (yWs ws)) = fillR ws) := Lib.hid rfl
            have Hcl : Hid (∀ y, (crossP (srt (xsAt ws y))).length ≤ k) := Lib.hid fun y => by
              have h1 := cross_len (srt (xsAt ws y))
              have h2 := (srt_perm (xsAt ws y)).length_eq
              have h3 := xsAt_len ws y
              have h4 := Hnw.out
              omega
            have c3 := (Hbk.out.cell (p := ⟨X, 0, none⟩) hs2).trans c2
            have Hr3 := Lib.hid ((Hbk.out.block _ (by omega)).trans Hr2.out)
            have HS3 := Lib.hid (HS2.out.below Hbk.out)
            have HSo := Lib.hid (sort_own wr Hown1.out (by omega))
            rw [← hsrl] at HSo
            have eg : ∀ args w, (callFunc 55 args).run Tryz.prog w = .ok (.enter 55 args) w := enters_of Tryz.func55 (by kernel_rfl) rfl
            have Eg := Lib.hid eg
            have Hb3 : Hid (Below w.heap.size w wr) := Lib.hid (Hb2.out.trans (Hbk.out.mono hs2w))
            have hX2 : X < wr.heap.size := by omega
            clear eg Hown
            obtain ⟨cl, hcl⟩ : ∃ cl, fillR ws = cl := ⟨_, rfl⟩
            rw [hcl] at Hx0
            have Hcle := Lib.hid hcl
            clear hcl
            by_cases hbg : 120 < cl.length
            · rw [if_pos hbg] at Hx0
              go_wp2_with (first
                | (go_at_call 51
                   refine HSo.out.mono ?_
                   rintro e w3 ⟨rfl, hown3, hg3⟩
                   have HB3 : Hid (Below w2.heap.size w2 w3) := Lib.hid (Hbk.out.grown hg3 hsk hub.out)
                   have Hown3 := Lib.hid hown3
                   clear hown3 hg3)
                | (go_at_call 54
                   refine (compact_own _ Hown3.out).mono ?_
                   rintro e w4 ⟨v4, rfl, hown4, hg4, hv4⟩
                   rw [← Hasc.out] at hown4
                   obtain ⟨C, cc, rfl, hC⟩ := SlI.of_own hown4
                   have HC := Lib.hid hC
                   have HB4 : Hid (Below w2.heap.size w2 w4) := Lib.hid (HB3.out.grown hg4 HB3.out.size hub.out)
                   have c4 := (HB4.out.cell (p := ⟨X, 0, none⟩) hs2).trans c2
                   have HS4 := Lib.hid (HS2.out.below HB4.out)
                   have hs4 := HB4.out.size
                   have Hr4 := Lib.hid ((HB4.out.block _ (by omega)).trans Hr2.out)
                   have Hb4 : Hid (Below w.heap.size w w4) := Lib.hid (Hb2.out.trans (HB4.out.mono hs2w))
                   have hX4 : X < w4.heap.size := by omega
                   clear hown4 hg4 hv4 hC)
                | (go_at_call 53
                   refine (build_any 55 #[.pointer (some ⟨X, 0, none⟩)] (fun y => crossP (srt (xsAt ws y))) k C (asc (yWs ws)).length cc (asc (yWs ws)) w4 HC.out (by omega) Hcl.out (by omega) (by have h1 := Nat.mul_le_mul (show (asc (yWs ws)).length ≤ 4000 by omega) hnw2; omega) Eg.out (fun W y hW => fillRow_any X WA k wc ws y W ((hW.cell (p := ⟨X, 0, none⟩) hX4).trans c4) (HS4.out.below hW) (by omega) (Hev.out y))).mono ?_
                   rintro e w5 ⟨v5, rfl, hown5, hb5⟩
                   rw [Hfr.out, Hcle.out] at hown5
                   obtain ⟨R, rc, rfl, hR⟩ := SlR.of_own hown5
                   have Hown5 := Lib.hid hown5
                   have Hb5 : Hid (Below w.heap.size w w5) := Lib.hid (Hb4.out.trans (hb5.mono (by omega)))
                   have hs5 := hb5.size
                   have Hr5 := Lib.hid ((hb5.block _ (by omega)).trans Hr4.out)
                   clear hown5 hb5 hR)
                | (go_at_call 52; refine (limited_big R cl.length rc _ hbg).mono ?_; rintro e w6 ⟨rfl, hb6⟩; have hr6 : w6.heap[w.heap.size]? = some (.cells #[.slice none 0 0] 25 (0, 0)) := (hb6.block _ (by omega)).trans Hr5.out; have cr6 := cell_of_row w6 w.heap.size 0 _ _ _ hr6; have fr6 := frozen_of_row w6 w.heap.size 0 _ _ hr6; have csame : (w6.setCell ⟨w.heap.size, 0, none⟩ (.slice none 0 0)).cell? ⟨w.heap.size, 0, none⟩ = some (.slice none 0 0) := (by rw [cell_of_row _ w.heap.size 0 _ _ _ (heap_setCell_same w6 w.heap.size 0 _ _ _ hr6)]; simp); have Hb6 : Hid (Below w.heap.size w w6) := Lib.hid (Hb5.out.trans (hb6.mono (by omega))); clear hb6 hr6)
                | fail)
              refine bodyPost_ret (v := .tuple #[.agg #[.slice none 0 0], .int .i64 1]) (by simp [results, Tryz.results18, go_sem, *]) rfl ?_
              rw [Hx0.out]
              exact ⟨_, rfl, World.ownsRow_nil _ _ _ _, Hb6.out.setCell (Nat.le_refl _) _⟩
            · rw [if_neg hbg] at Hx0
              have hbg' : cl.length ≤ 120 := by omega
              go_wp2_with (first
                | (go_at_call 51
                   refine HSo.out.mono ?_
                   rintro e w3 ⟨rfl, hown3, hg3⟩
                   have HB3 : Hid (Below w2.heap.size w2 w3) := Lib.hid (Hbk.out.grown hg3 hsk hub.out)
                   have Hown3 := Lib.hid hown3
                   clear hown3 hg3)
                | (go_at_call 54
                   refine (compact_own _ Hown3.out).mono ?_
                   rintro e w4 ⟨v4, rfl, hown4, hg4, hv4⟩
                   rw [← Hasc.out] at hown4
                   obtain ⟨C, cc, rfl, hC⟩ := SlI.of_own hown4
                   have HC := Lib.hid hC
                   have HB4 : Hid (Below w2.heap.size w2 w4) := Lib.hid (HB3.out.grown hg4 HB3.out.size hub.out)
                   have c4 := (HB4.out.cell (p := ⟨X, 0, none⟩) hs2).trans c2
                   have HS4 := Lib.hid (HS2.out.below HB4.out)
                   have hs4 := HB4.out.size
                   have Hr4 := Lib.hid ((HB4.out.block _ (by omega)).trans Hr2.out)
                   have Hb4 : Hid (Below w.heap.size w w4) := Lib.hid (Hb2.out.trans (HB4.out.mono hs2w))
                   have hX4 : X < w4.heap.size := by omega
                   clear hown4 hg4 hv4 hC)
                | (go_at_call 53
                   refine (build_any 55 #[.pointer (some ⟨X, 0, none⟩)] (fun y => crossP (srt (xsAt ws y))) k C (asc (yWs ws)).length cc (asc (yWs ws)) w4 HC.out (by omega) Hcl.out (by omega) (by have h1 := Nat.mul_le_mul (show (asc (yWs ws)).length ≤ 4000 by omega) hnw2; omega) Eg.out (fun W y hW => fillRow_any X WA k wc ws y W ((hW.cell (p := ⟨X, 0, none⟩) hX4).trans c4) (HS4.out.below hW) (by omega) (Hev.out y))).mono ?_
                   rintro e w5 ⟨v5, rfl, hown5, hb5⟩
                   rw [Hfr.out, Hcle.out] at hown5
                   obtain ⟨R, rc, rfl, hR⟩ := SlR.of_own hown5
                   have Hown5 := Lib.hid hown5
                   have Hb5 : Hid (Below w.heap.size w w5) := Lib.hid (Hb4.out.trans (hb5.mono (by omega)))
                   have hs5 := hb5.size
                   have Hr5 := Lib.hid ((hb5.block _ (by omega)).trans Hr4.out)
                   clear hown5 hb5 hR)
                | (go_at_call 52; refine (limited_ok R cl.length rc _ hbg').mono ?_; rintro e w6 ⟨rfl, hb6⟩; have hr6 : w6.heap[w.heap.size]? = some (.cells #[.slice none 0 0] 25 (0, 0)) := (hb6.block _ (by omega)).trans Hr5.out; have cr6 := cell_of_row w6 w.heap.size 0 _ _ _ hr6; have fr6 := frozen_of_row w6 w.heap.size 0 _ _ hr6; have csame : (w6.setCell ⟨w.heap.size, 0, none⟩ (.slice R cl.length rc)).cell? ⟨w.heap.size, 0, none⟩ = some (.slice R cl.length rc) := (by rw [cell_of_row _ w.heap.size 0 _ _ _ (heap_setCell_same w6 w.heap.size 0 _ _ _ hr6)]; simp); have Hown6 := Lib.hid (ownsRow_below Hown5.out hb6); have Hb6 : Hid (Below w.heap.size w w6) := Lib.hid (Hb5.out.trans (hb6.mono (by omega))); clear hb6 hr6)
                | fail)
              refine bodyPost_ret (v := .tuple #[.agg #[.slice R cl.length rc], .int .i64 0]) (by simp [results, Tryz.results18, go_sem, *]) rfl ?_
              rw [Hx0.out]
              have hlow := own_base Hown6.out
              refine ⟨_, rfl, ?_, Hb6.out.setCell (Nat.le_refl _) _⟩
              exact own_other (own_rebase Hown6.out (by omega)) (only_setCell (g := w.heap.size) (World.grownBy.refl _ _) (.inl rfl) _) (fun j hj e => by injection e with e; have := hlow j hj; omega)
end Go.Proofs.YtpcfhcdbibklcaaGreat
namespace Go.Proofs.YtpcfhcdbibklcaaGreat
open Go.RowKit Go.Shelf
set_option linter.unusedVariables false
set_option linter.unusedSimpArgs false

theorem wrap_step (s d : Int) : wrap64 (wrap64 s + d) = wrap64 (s + d) := by
  unfold wrap64
  omega
theorem pair_rings {w : World} {a1 a2 : Option Addr} {n1 n2 c1 c2 : Nat} {l1 l2 : List Pt} {D : Nat} (hD : Lies w (some ⟨D, 0, none⟩) 2 [.slice a1 n1 c1, .slice a2 n2 c2]) (h1 : SlPt w a1 n1 c1 l1) (h2 : SlPt w a2 n2 c2 l2) : SlRg w (some ⟨D, 0, none⟩) 2 2 [(l1, ⟨a1, c1⟩), (l2, ⟨a2, c2⟩)] := by
  obtain rfl := h1.len
  obtain rfl := h2.len
  refine ⟨rfl, Nat.le_refl _, by unfold maxLen; omega, hD, fun x hx => ?_⟩
  simp only [List.mem_cons, List.not_mem_nil, or_false] at hx
  rcases hx with rfl | rfl
  · exact h1
  · exact h2
theorem own_pair (w : World) (t : TypeId) (x y : Value) : (w.alloc (.cells #[x, y] t)).ownsRow w.heap.size t 1 (.slice (some ⟨w.heap.size, 0, none⟩) 2 2) 2 [x, y] :=
  ⟨by simp, .inr ⟨w.heap.size, 2, #[x, y], rfl, Nat.le_refl _, heap_alloc_new w _, Nat.le_refl _, by unfold maxLen; omega, by simp, by simp⟩⟩
theorem rg_reads {w : World} {A : Option Addr} {n c : Nat} {l : RgL} (h : SlRg w A n c l) : Reads w w.heap.size 1 A n (l.map rgH) := h.lies.reads (by rw [List.length_map, h.len]; omega)
theorem rg_one (l : RgL) : ∀ u ∈ l.map rgH, u.oneCell' = true := by
  intro u hu
  obtain ⟨x, _, rfl⟩ := List.mem_map.1 hu
  rfl
/-- The rings of one list behind those of another one. -/
theorem rg_cat {w : World} {B : Nat} {v : Value} {n : Nat} {A A' : Option Addr} {n1 n2 c1 c2 : Nat} {l l' : RgL} (h : w.ownsRow B 40 1 v n (l.map rgH ++ l'.map rgH)) (hn : n = n1 + n2) (h1 : SlRg w A n1 c1 l) (h2 : SlRg w A' n2 c2 l') : ∃ C c, v = .slice C n c ∧ SlRg w C n c (l ++ l') := by
  obtain ⟨C, c, rfl, h3, h4, h5⟩ := own_slice h
  refine ⟨C, c, rfl, by rw [List.length_append, h1.len, h2.len, hn], h4, h5, by rw [List.map_append]; exact h3, fun x hx => ?_⟩
  rcases List.mem_append.1 hx with hx | hx
  · exact h1.fits x hx
  · exact h2.fits x hx
theorem rgPts_app (l l' : RgL) : rgPts (l ++ l') = rgPts l ++ rgPts l' := by simp [rgPts]
theorem few_of {rs : List (List Pt)} (h : (rs.map List.length).sum ≤ 300) : FewPts rs := fun _ => h
/-- The rings of a region within a small side have few corners. -/
theorem right_few {l : List R4} {s m : Nat} (h : Reg s m l) (hs : s ≤ 10) (hm : m ≤ 120) {rs : List (List Pt)} {err : Int} (hr : RgRes5 l rs err) : (rs.map List.length).sum ≤ 220 := by
  obtain ⟨cs, h1, h2⟩ := hr.good (h.valid (by omega) hm)
  have hset : ESet (inL l) (edgesR l) := edgesR_set (n := s) h.ins
  have h3 := eset_len hset (ins_sd h.ins)
  have h4 : s * (s + 1) ≤ 10 * 11 := Nat.mul_le_mul hs (by omega)
  rcases h2 with ⟨_, rfl, _⟩ | ⟨_, _, hp, _⟩
  · simp
  · have h5 := sumN_perm (hp.map List.length)
    have h6 := rings_total hset h1
    omega
theorem right_len {l : List R4} {s m : Nat} (h : Reg s m l) (hs : s ≤ 10) (hm : m ≤ 120) {rs : List (List Pt)} {err : Int} (hr : RgRes5 l rs err) : rs.length ≤ 60 := by
  obtain ⟨cs, h1, h2⟩ := hr.good (h.valid (by omega) hm)
  rcases h2 with ⟨_, rfl, _⟩ | ⟨hb, _, hp, _⟩
  · simp
  · have h3 := hp.length_eq
    rw [List.length_map] at h3
    rcases Nat.lt_or_ge 60 cs.length with h4 | h4
    · exact absurd (.inl h4) hb
    · omega
theorem raw_few {rs : List (List Pt)} (hn : rs.length ≤ 70) (h : wrap64 (((rs.map List.length).sum : Nat) : Int) ≤ 60) : FewPts rs := fun ha => by
  have h1 : ∀ l : List (List Pt), (∀ r ∈ l, ringP r = 0) → (l.map List.length).sum ≤ 400 * l.length := by
    intro l
    induction l with
    | nil => intro _; simp
    | cons a t ih =>
      intro hl
      have h2 := ih fun r hr => hl r (List.mem_cons_of_mem _ hr)
      obtain ⟨_, h3, _⟩ := ringP_zero (hl a (by simp))
      rw [List.map_cons, List.sum_cons, List.length_cons]
      omega
  have h2 := h1 rs ha
  unfold wrap64 at h
  omega
/-- Lists of rings, in a row of their own. -/
structure RgQ (w : World) (G : Nat) (Q : List (RgL × HV)) : Prop where
  lt : G < w.heap.size
  cell : ∀ i (h : i < Q.length), w.cell? ⟨G, i, none⟩ = some (.slice Q[i].2.a Q[i].1.length Q[i].2.c)
  sl : ∀ x ∈ Q, SlRg w x.2.a x.1.length x.2.c x.1
  few : ∀ x ∈ Q, FewPts (rgPts x.1)
theorem RgQ.below {w w' : World} {G : Nat} {Q : List (RgL × HV)} (h : RgQ w G Q) (hb : Below w.heap.size w w') : RgQ w' G Q :=
  ⟨Nat.lt_of_lt_of_le h.lt hb.size, fun i hi => (hb.cell (p := ⟨G, i, none⟩) h.lt).trans (h.cell i hi), fun x hx => (h.sl x hx).below hb, h.few⟩
theorem SlRg.cast {w : World} {A : Option Addr} {n c : Nat} {l : RgL} (h : SlRg w A n c l) : SlRg w A l.length c l := by
  obtain rfl := h.len
  exact h
theorem RgQ.make {w : World} {G : Nat} {t : TypeId} {l0 l1 l2 l3 : RgL} {a0 a1 a2 a3 : Option Addr} {n0 n1 n2 n3 c0 c1 c2 c3 : Nat} (hG : w.heap[G]? = some (.cells #[.slice a0 n0 c0, .slice a1 n1 c1, .slice a2 n2 c2, .slice a3 n3 c3] t (0, 0)))
    (h0 : SlRg w a0 n0 c0 l0) (h1 : SlRg w a1 n1 c1 l1) (h2 : SlRg w a2 n2 c2 l2) (h3 : SlRg w a3 n3 c3 l3) (f0 : FewPts (rgPts l0)) (f1 : FewPts (rgPts l1)) (f2 : FewPts (rgPts l2)) (f3 : FewPts (rgPts l3)) :
    RgQ w G [(l0, ⟨a0, c0⟩), (l1, ⟨a1, c1⟩), (l2, ⟨a2, c2⟩), (l3, ⟨a3, c3⟩)] := by
  have hlt : G < w.heap.size := by
    rcases Nat.lt_or_ge G w.heap.size with h | h
    · exact h
    · rw [Array.getElem?_eq_none h] at hG; cases hG
  refine ⟨hlt, fun i hi => ?_, fun x hx => ?_, fun x hx => ?_⟩
  · obtain rfl := h0.len
    obtain rfl := h1.len
    obtain rfl := h2.len
    obtain rfl := h3.len
    rcases (show i = 0 ∨ i = 1 ∨ i = 2 ∨ i = 3 by simp at hi; omega) with rfl | rfl | rfl | rfl
    · exact cell_of_row w G 0 _ _ _ hG
    · exact cell_of_row w G 1 _ _ _ hG
    · exact cell_of_row w G 2 _ _ _ hG
    · exact cell_of_row w G 3 _ _ _ hG
  · simp only [List.mem_cons, List.not_mem_nil, or_false] at hx
    rcases hx with rfl | rfl | rfl | rfl
    · exact h0.cast
    · exact h1.cast
    · exact h2.cast
    · exact h3.cast
  · simp only [List.mem_cons, List.not_mem_nil, or_false] at hx
    rcases hx with rfl | rfl | rfl | rfl
    · exact f0
    · exact f1
    · exact f2
    · exact f3
/-- Two regions, in a row of their own. -/
structure RcQ (w : World) (G : Nat) (Q : List (List R4 × HV)) : Prop where
  lt : G < w.heap.size
  cell : ∀ i (h : i < Q.length), w.cell? ⟨G, i, none⟩ = some (.slice Q[i].2.a Q[i].1.length Q[i].2.c)
  sl : ∀ x ∈ Q, SlR w x.2.a x.1.length x.2.c x.1
  few : ∀ x ∈ Q, EdgesOk x.1
theorem RcQ.below {w w' : World} {G : Nat} {Q : List (List R4 × HV)} (h : RcQ w G Q) (hb : Below w.heap.size w w') : RcQ w' G Q :=
  ⟨Nat.lt_of_lt_of_le h.lt hb.size, fun i hi => (hb.cell (p := ⟨G, i, none⟩) h.lt).trans (h.cell i hi), fun x hx => (h.sl x hx).below hb, h.few⟩
theorem RcQ.make {w : World} {G : Nat} {t : TypeId} {l0 l1 : List R4} {a0 a1 : Option Addr} {n0 n1 c0 c1 : Nat} (hG : w.heap[G]? = some (.cells #[.slice a0 n0 c0, .slice a1 n1 c1] t (0, 0)))
    (h0 : SlR w a0 n0 c0 l0) (h1 : SlR w a1 n1 c1 l1) (f0 : EdgesOk l0) (f1 : EdgesOk l1) :
    RcQ w G [(l0, ⟨a0, c0⟩), (l1, ⟨a1, c1⟩)] := by
  have hlt : G < w.heap.size := by
    rcases Nat.lt_or_ge G w.heap.size with h | h
    · exact h
    · rw [Array.getElem?_eq_none h] at hG; cases hG
  obtain rfl := h0.len
  obtain rfl := h1.len
  refine ⟨hlt, fun i hi => ?_, fun x hx => ?_, fun x hx => ?_⟩
  · rcases (show i = 0 ∨ i = 1 by simp at hi; omega) with rfl | rfl
    · exact cell_of_row w G 0 _ _ _ hG
    · exact cell_of_row w G 1 _ _ _ hG
  · simp only [List.mem_cons, List.not_mem_nil, or_false] at hx
    rcases hx with rfl | rfl
    · exact h0
    · exact h1
  · simp only [List.mem_cons, List.not_mem_nil, or_false] at hx
    rcases hx with rfl | rfl
    · exact f0
    · exact f1
set_option maxHeartbeats 16000000 in
set_option maxRecDepth 100000 in
theorem answersLaw5 (A0 : Option Addr) (c0 : Nat) (L0 : RgL) (A1 : Option Addr) (c1 : Nat) (L1 : List R4) (A2 : Option Addr) (n2 c2 : Nat) (zs : List Int) (w : World) (hS0 : SlRg w A0 L0.length c0 L0) (hS1 : SlR w A1 L1.length c1 L1)
    (hn : zs.length = n2) (hc : n2 ≤ c2) (hm : c2 ≤ maxLen) (hw : ∀ z ∈ zs, (Lit.int .i64 z).wf = true) (hA : Lies w A2 n2 (zs.map (.int .i64))) :
    Calls Tryz.prog 5 #[.slice A0 L0.length c0, .agg #[.slice A1 L1.length c1], .slice A2 n2 c2] w fun e w' => e = .returned (.bool true) ∧ Below w.heap.size w w' := by
  obtain ⟨i1, hi, hz0, hz1, hz2⟩ := info_parts Tryz.infoRing5
  have HN := Lib.hid (fun W (hW : Below w.heap.size w W) => new_any A2 n2 c2 zs W hn hc hm hw (hA.below hW))
  have HAw := Lib.hid (fun W => awake05_any W)
  have HS0 := Lib.hid hS0
  have HS1 := Lib.hid hS1
  clear hn hc hm hw hA hS0 hS1
  obtain ⟨n0, hn0⟩ : ∃ n0, L0.length = n0 := ⟨_, rfl⟩
  obtain ⟨n1, hn1⟩ : ∃ n1, L1.length = n1 := ⟨_, rfl⟩
  have HN0 := Lib.hid hn0
  have HN1 := Lib.hid hn1
  rw [hn0] at HS0 ⊢
  rw [hn1] at HS1 ⊢
  clear hn0 hn1
  by_cases hb0 : 70 < n0
  · have hb0' : (n0 : Int) > 70 := by omega
    go_enter Tryz.func5, Tryz.ntmps5
    go_wp2_with (first
      | (go_at_call 12; refine (HAw.out _).mono ?_; rintro e w9 ⟨rfl, hb9⟩; have Hb9 : Hid (Below w.heap.size w w9) := Lib.hid (show Below w.heap.size w w9 from (by have hbq := hb9; exact (by repeat' (first | with_reducible exact Below.refl _ _ | with_reducible assumption | with_reducible refine below_drewN ?_ _ | with_reducible refine Below.drew ?_ | with_reducible refine Below.alloc ?_ ?_ _ | with_reducible refine Below.setCell ?_ ?_ _ | with_reducible refine Below.trans ?_ (Below.mono (by with_reducible assumption) ?_) | with_reducible refine below_only ?_ (by with_reducible assumption) ?_ ?_ | (simp; done) | (simp; omega) | omega)))); clear hb9)
      | fail)
    go_ret
    exact ⟨rfl, Hb9.out⟩
  have hb0' : ¬ (n0 : Int) > 70 := by omega
  by_cases hb1 : 8 < n1
  · have hb1' : (n1 : Int) > 8 := by omega
    go_enter Tryz.func5, Tryz.ntmps5
    go_wp2_with (first
      | (go_at_call 12; refine (HAw.out _).mono ?_; rintro e w9 ⟨rfl, hb9⟩; have Hb9 : Hid (Below w.heap.size w w9) := Lib.hid (show Below w.heap.size w w9 from (by have hbq := hb9; exact (by repeat' (first | with_reducible exact Below.refl _ _ | with_reducible assumption | with_reducible refine below_drewN ?_ _ | with_reducible refine Below.drew ?_ | with_reducible refine Below.alloc ?_ ?_ _ | with_reducible refine Below.setCell ?_ ?_ _ | with_reducible refine Below.trans ?_ (Below.mono (by with_reducible assumption) ?_) | with_reducible refine below_only ?_ (by with_reducible assumption) ?_ ?_ | (simp; done) | (simp; omega) | omega)))); clear hb9)
      | fail)
    go_ret
    exact ⟨rfl, Hb9.out⟩
  have hb1' : ¬ (n1 : Int) > 8 := by omega
  have HE1 : Hid (EdgesOk L1) := Lib.hid (fun _ => edges_few L1 (by have := HN1.out; omega))
  go_enter Tryz.func5, Tryz.ntmps5
  go_upto_region 1 with fail
  obtain ⟨wa, hwa⟩ : ∃ wa : World, wa = w.alloc (.cells #[.slice A1 n1 c1] 25) := ⟨_, rfl⟩
  rw [← hwa]
  have hra : wa.heap[w.heap.size]? = some (.cells #[.slice A1 n1 c1] 25 (0, 0)) := by rw [hwa]; exact heap_alloc_new w _
  have Hra := Lib.hid hra
  have ca := cell_of_row wa w.heap.size 0 _ _ _ hra
  have Hba : Hid (Below w.heap.size w wa) := Lib.hid (by rw [hwa]; exact (by repeat' (first | with_reducible exact Below.refl _ _ | with_reducible refine below_drewN ?_ _ | with_reducible refine Below.drew ?_ | with_reducible refine Below.alloc ?_ ?_ _ | with_reducible refine Below.setCell ?_ ?_ _ | with_reducible refine Below.trans ?_ (Below.mono (by with_reducible assumption) ?_) | (simp; done) | (simp; omega) | omega)))
  have hsa : w.heap.size < wa.heap.size := by rw [hwa]; simp
  have HS0a := Lib.hid (HS0.out.below Hba.out)
  clear hwa hra
  go_upto_region 5 with fail
  clear ca
  go_loopw [7, 47] (fun nv iv wr => ∃ (k : Nat) (z : Int), k ≤ n0 ∧ iv = .int .i64 (k : Int) ∧ nv = .int .i64 z ∧ Hid (z = wrap64 ((((rgPts L0).take k).map List.length).sum : Nat)) ∧ wr = wa) (fun _ iv _ => n0 - (intOf iv).toNat)
  case atStart => exact ⟨0, 0, Nat.zero_le _, rfl, rfl, Lib.hid (by simp [wrap64]), rfl⟩
  case round =>
    obtain ⟨k, z, hk, rfl, rfl, Hz, rfl⟩ := hrel
    by_cases hkn : k < n0
    · have hkn' : (k : Int) < (n0 : Int) := by omega
      have hkl : k < L0.length := by have := HN0.out; omega
      obtain ⟨b, off, rfl, hb, r0, -⟩ := HS0a.out.at k hkl
      obtain ⟨z2, hz2⟩ : ∃ z2, wrap64 (z + (L0[k].1.length : Int)) = z2 := ⟨_, rfl⟩
      have Hz2 : Hid (z2 = wrap64 ((((rgPts L0).take (k + 1)).map List.length).sum : Nat)) := Lib.hid (by
        have hk2 : k < (rgPts L0).length := by rw [rgPts_len]; exact hkl
        have e1 : (rgPts L0)[k] = L0[k].1 := by simp [rgPts]
        rw [← hz2, Hz.out, wrap_step, List.take_succ_eq_append_getElem hk2, e1]
        congr 1
        simp)
      generalize L0[k].1.length = d at *
      generalize L0[k].2.a = da at *
      generalize L0[k].2.c = dc at *
      have hz2' : IntKind.i64.wrap (z + (d : Int)) = z2 := (IntWalk.i64_left _).trans hz2
      clear hz2
      go_wp2
      go_roundw
      case rel => exact ⟨k + 1, z2, by omega, by go_num, rfl, Hz2, trivial⟩
      case measure => simp [intOf]; omega
    · obtain rfl : k = n0 := by omega
      have hkn' : ¬ (k : Int) < (k : Int) := by omega
      by_cases hz60 : z > 60
      · have hz60' : (60 : Int) < z := hz60
        go_wp2_with (first
          | (go_at_call 12; refine (HAw.out _).mono ?_; rintro e w9 ⟨rfl, hb9⟩; have Hb9 : Hid (Below w.heap.size w w9) := Lib.hid (Hba.out.trans (hb9.mono (by omega))); clear hb9)
          | fail)
        go_ret
        exact ⟨rfl, Hb9.out⟩
      · have hfr : Hid (FewPts (rgPts L0)) := Lib.hid (raw_few (by rw [rgPts_len]; have := HN0.out; omega) (by
          have h1 := Hz.out
          rw [List.take_of_length_le (by rw [rgPts_len]; have := HN0.out; omega)] at h1
          omega))
        clear Hz
        go_upto_region 13 with (first
          | (go_at_call 8
             refine (HN.out _ Hba.out).mono ?_
             rintro e w1 ⟨g, rfl, hg, ht, hb1⟩
             have HT1 := Lib.hid ht
             have Hb1 : Hid (Below w.heap.size w w1) := Lib.hid (Hba.out.trans (hb1.mono (by omega)))
             have Hra1 := Lib.hid ((hb1.block _ hsa).trans Hra.out)
             have hs1 := hb1.size
             have hgw : w.heap.size < g := by omega
             clear ht hb1)
          | (go_at_call 15
             refine (broken_any g _ 8 4 _ HT1.out (by omega) (by omega)).mono ?_
             rintro e w2 ⟨v2, rfl, hown2, ht2, hg2⟩
             obtain ⟨B, bc, rfl, -, -, -⟩ := own_slice hown2
             have Hown2 := Lib.hid hown2
             have HT2 := Lib.hid ht2
             have Hg2 := Lib.hid hg2
             have hs2 := hg2.size
             have hglt := HT1.out.lt
             clear hown2 ht2 hg2)
          | fail)
        have HEb : Hid (EdgesOk (mkBrk (zs.take 400) 8 4).1) := Lib.hid (mkBrk_edges _)
        obtain ⟨bl, hbl⟩ : ∃ bl, (mkBrk (zs.take 400) 8 4).1 = bl := ⟨_, rfl⟩
        obtain ⟨tr, htr⟩ : ∃ tr, (mkBrk (zs.take 400) 8 4).2 = tr := ⟨_, rfl⟩
        rw [hbl] at Hown2 HEb ⊢
        rw [htr] at HT2
        clear hbl htr HN
        obtain ⟨bn, hbn⟩ : ∃ bn, bl.length = bn := ⟨_, rfl⟩
        have Hbn := Lib.hid hbn
        rw [hbn] at Hown2 ⊢
        clear hbn
        obtain ⟨w3, hw3⟩ : ∃ w3 : World, w3 = w2.alloc (.cells #[.slice B bn bc] 25) := ⟨_, rfl⟩
        rw [← hw3]
        have hr3 : w3.heap[w2.heap.size]? = some (.cells #[.slice B bn bc] 25 (0, 0)) := by rw [hw3]; exact heap_alloc_new w2 _
        have Hr3 := Lib.hid hr3
        have HT3 : Hid (TapeAt w3 g tr) := Lib.hid (by rw [hw3]; exact HT2.out.alloc _)
        have Hown3 : Hid (w3.ownsRow w1.heap.size 58 4 (.slice B bn bc) bn (rCells bl)) := Lib.hid (by rw [hw3]; exact Hown2.out.alloc _)
        have Hg3 : Hid (w1.grownBy w3 (some g)) := Lib.hid (by rw [hw3]; exact only_alloc Hg2.out _)
        have hs3 : w2.heap.size < w3.heap.size := by rw [hw3]; simp
        clear hw3 hr3 HT2 Hown2 Hg2
        go_upto_region 14 with (first
          | (go_at_call 16
             have hq := HT4.out
             refine (ringT_any g _ _ HT4.out).mono ?_
             rintro e w5 ⟨v5, l5, r5, rfl, hD5, -, hl5⟩
             obtain ⟨a5, c5, rfl, -, -, -⟩ := own_slice hD5.own
             have HD5 := Lib.hid hD5
             have hs5 := hD5.gr.size
             clear hD5 hq)
          | (go_at_call 16
             refine (ringT_any g _ _ HT3.out).mono ?_
             rintro e w4 ⟨v4, l4, r4, rfl, hD4, -, hl4⟩
             obtain ⟨a4, c4, rfl, -, -, -⟩ := own_slice hD4.own
             have HD4 := Lib.hid hD4
             have HT4 := Lib.hid hD4.tape
             have hs4 := hD4.gr.size
             clear hD4)
          | fail)
        obtain ⟨n4, hn4⟩ : ∃ n4, l4.length = n4 := ⟨_, rfl⟩
        obtain ⟨n5, hn5⟩ : ∃ n5, l5.length = n5 := ⟨_, rfl⟩
        have Hn4 := Lib.hid hn4
        have Hn5 := Lib.hid hn5
        rw [hn4] at hl4 HD4 ⊢
        rw [hn5] at hl5 HD5 ⊢
        clear hn4 hn5
        obtain ⟨w6, hw6⟩ : ∃ w6 : World, w6 = w5.alloc (.cells #[.slice a4 n4 c4, .slice a5 n5 c5] 40) := ⟨_, rfl⟩
        rw [← hw6]
        have hg4w : g < w3.heap.size := by omega
        have Hp4 : Hid (w6.ownsRow w3.heap.size 43 2 (.slice a4 n4 c4) n4 (pCells l4)) := Lib.hid (by
          rw [hw6]
          have h1 := HD4.out.own
          rw [Hn4.out] at h1
          exact (ownsRow_only h1 HD5.out.gr hg4w).alloc _)
        have Hp5 : Hid (w6.ownsRow w4.heap.size 43 2 (.slice a5 n5 c5) n5 (pCells l5)) := Lib.hid (by
          rw [hw6]
          have h1 := HD5.out.own
          rw [Hn5.out] at h1
          exact h1.alloc _)
        have HpD : Hid (w6.ownsRow w5.heap.size 40 1 (.slice (some ⟨w5.heap.size, 0, none⟩) 2 2) 2 [.slice a4 n4 c4, .slice a5 n5 c5]) := Lib.hid (by rw [hw6]; exact own_pair w5 _ _ _)
        have Hg36 : Hid (w3.grownBy w6 (some g)) := Lib.hid (by rw [hw6]; exact only_alloc (only_trans HD4.out.gr HD5.out.gr) _)
        have HT6 : Hid (TapeAt w6 g r5) := Lib.hid (by rw [hw6]; exact HD5.out.tape.alloc _)
        have hs6 : w5.heap.size < w6.heap.size := by rw [hw6]; simp
        clear hw6 HD4 HD5 HT3 HT4
        obtain ⟨D, hD⟩ : ∃ D, w5.heap.size = D := ⟨_, rfl⟩
        rw [hD] at HpD hs6 hs5 ⊢
        clear hD
        go_upto_region 15 with (first
          | (go_at_call 9
             refine (region_any g _ 8 4 _ HT6.out (by omega) (by omega)).mono ?_
             rintro e w7 ⟨v7, rfl, hown7, -, hg7⟩
             obtain ⟨hreg⟩ : Nonempty (Reg (8 : Nat) 28 (mkReg r5 8 4).1) := ⟨by have := mkReg_reg r5 8 4 (by omega) (by omega) (by omega) (by omega); exact this⟩
             obtain ⟨C, cc, rfl, hC⟩ := SlR.of_own hown7
             have Hfew : Hid (∀ rs err, RgRes5 (mkReg r5 8 4).1 rs err → (rs.map List.length).sum ≤ 220 ∧ rs.length ≤ 60) := Lib.hid (fun rs err h => ⟨right_few hreg (by omega) (by omega) h, right_len hreg (by omega) (by omega) h⟩)
             have HR7 := Lib.hid (rings5_any C (mkReg r5 8 4).1.length cc (mkReg r5 8 4).1 _ hC)
             have Hg7 := Lib.hid hg7
             have hs7 := hg7.size
             clear hown7 hg7 hC hreg)
          | (go_at_call 17
             refine HR7.out.mono ?_
             rintro e w8 ⟨v8, rs8, err8, rfl, hrg8, hb8, hres8⟩
             obtain ⟨hsum8, hm60⟩ := Hfew.out _ _ hres8
             have Hsum := Lib.hid hsum8
             rw [List.length_map] at hm60
             obtain ⟨RA, rc, LR, rfl, hsl8, hrp8⟩ := hrg8.sl
             rw [← hrp8] at Hsum
             have HSl8 := Lib.hid hsl8
             have Hb8 := Lib.hid hb8
             have hs8 := hb8.size
             clear hrg8 hb8 hres8 hrp8 hsl8 hsum8)
          | fail)
        clear HR7 Hfew
        obtain ⟨m, hm⟩ : ∃ m, rs8.length = m := ⟨_, rfl⟩
        rw [hm] at HSl8 hm60 ⊢
        clear hm
        have Hpd : Hid (SlRg w8 (some ⟨D, 0, none⟩) 2 2 [(l4, ⟨a4, c4⟩), (l5, ⟨a5, c5⟩)]) := Lib.hid (by
          have h4 := ownsRow_below (ownsRow_only Hp4.out Hg7.out hg4w) Hb8.out
          have h5 := ownsRow_below (ownsRow_only Hp5.out Hg7.out (by omega)) Hb8.out
          have hd := ownsRow_below (ownsRow_only HpD.out Hg7.out (by omega)) Hb8.out
          rw [← Hn4.out] at h4
          rw [← Hn5.out] at h5
          obtain ⟨_, _, e4, s4⟩ := SlPt.of_own h4
          obtain ⟨_, _, e5, s5⟩ := SlPt.of_own h5
          injection e4 with e4 _ e4'
          injection e5 with e5 _ e5'
          subst e4 e4' e5 e5'
          rw [Hn4.out] at s4
          rw [Hn5.out] at s5
          exact pair_rings (Lies.of_own hd) s4 s5)
        have Hb38 : Hid (w3.grownBy w8 (some g)) := Lib.hid (only_below (only_trans Hg36.out Hg7.out) Hb8.out (by omega))
        have Hbw8 : Hid (Below w.heap.size w w8) := Lib.hid (below_only Hb1.out (only_trans Hg3.out Hb38.out) (by omega) (by omega))
        have HSb : Hid (SlR w8 B bn bc bl) := Lib.hid (by
          have h1 := ownsRow_only Hown3.out Hb38.out (by omega)
          rw [← Hbn.out] at h1
          obtain ⟨_, _, e1, s1⟩ := SlR.of_own h1
          injection e1 with e1 _ e1'
          subst e1 e1'
          rw [Hbn.out] at s1
          exact s1)
        have Hbox : Hid (w8.heap[w2.heap.size]? = some (.cells #[.slice B bn bc] 25 (0, 0))) := Lib.hid ((Hb38.out.block _ hs3 (by intro e; injection e with e; omega)).trans Hr3.out)
        have Hra8 : Hid (w8.heap[w.heap.size]? = some (.cells #[.slice A1 n1 c1] 25 (0, 0))) := Lib.hid (((only_trans Hg3.out Hb38.out).block _ (by omega) (by intro e; injection e with e; omega)).trans Hra1.out)
        have HS08 := Lib.hid (HS0.out.below Hbw8.out)
        have HS18 := Lib.hid (HS1.out.below Hbw8.out)
        have hX8 : w2.heap.size < w8.heap.size := by omega
        obtain ⟨X, hX⟩ : ∃ X, w2.heap.size = X := ⟨_, rfl⟩
        rw [hX] at Hbox hX8 ⊢
        have hwX : w.heap.size < w8.heap.size := by omega
        clear hX Hp4 Hp5 HpD Hown3 Hr3 Hg3 Hg36 Hg7 Hb8 HT6 Hb38 Hra1 Hb1 HT1 HS0 HS1 HS0a Hra
        clear hs1 hs2 hs3 hs4 hs5 hs6 hs7 hs8 hg4w hglt
        have hfd : FewPts (rgPts [(l4, (⟨a4, c4⟩ : HV)), (l5, ⟨a5, c5⟩)]) := few_of (by have h1 := Hn4.out; have h2 := Hn5.out; simp [rgPts]; omega)
        have hfR : FewPts (rgPts LR) := few_of (by have := Hsum.out; omega)
        have hfC : FewPts (rgPts (LR ++ [(l4, (⟨a4, c4⟩ : HV)), (l5, ⟨a5, c5⟩)])) := few_of (by
          have h1 := Hn4.out
          have h2 := Hn5.out
          have h3 := Hsum.out
          rw [rgPts_app, List.map_append, List.sum_append]
          simp [rgPts] at h3 ⊢
          omega)
        have Hf := Lib.hid (And.intro hfd (And.intro hfR hfC))
        clear hfd hfR hfC Hsum
        obtain ⟨LD, hLD⟩ : ∃ LD, [(l4, (⟨a4, c4⟩ : HV)), (l5, ⟨a5, c5⟩)] = LD := ⟨_, rfl⟩
        rw [hLD] at Hpd Hf
        clear hLD
        go_upto_region 16 with (first
          | (at_builtin
             refine wpList_append_any _ rfl (.tmp 79) (.tmp 80) _ rfl w8.heap.size 40 i1 (.slice none 0 0) 1 24 Tryz.underlying37 hi hz0 hz1 hz2 rfl (by omega) (.slice (some ⟨w8.heap.size, 0, none⟩) 0 0) 0 [] rfl (own_zero w8 w8.heap.size 40 1 (Nat.le_refl _)) _ RA m rc (LR.map rgH) rfl (rg_reads (HSl8.out.below ((Below.refl _ _).alloc (Nat.le_refl _) _))) (rg_one LR) (by simp only [maxLen]; omega) (by omega) (by simp) ?_
             intro v9 w9 hown9 hg9 hat9
             rw [Nat.zero_add, List.nil_append] at hown9
             have Hown9 := Lib.hid hown9
             have Hb9 : Hid (Below w8.heap.size w8 w9) := Lib.hid (Below.grown ((Below.refl _ _).alloc (Nat.le_refl _) _) hg9 (by simp) (by intro k hk; simp [Value.ownBlock] at hk; omega))
             have hs9 := Hb9.out.size
             clear hown9 hg9 hat9)
          | (at_builtin
             refine wpList_append_any _ rfl (.tmp 81) (.tmp 82) _ rfl w8.heap.size 40 i1 (.slice none 0 0) 1 24 Tryz.underlying37 hi hz0 hz1 hz2 rfl (by omega) v9 m (LR.map rgH) rfl Hown9.out _ (some ⟨D, 0, none⟩) 2 2 (LD.map rgH) rfl (rg_reads (Hpd.out.below Hb9.out)) (rg_one LD) (by simp only [maxLen]; omega) (by omega) hs9 ?_
             intro v10 w10 hown10 hg10 hat10
             have Hb10 : Hid (Below w8.heap.size w8 w10) := Lib.hid (Below.grown Hb9.out hg10 hs9 (own_base Hown9.out))
             obtain ⟨E, ec, rfl, hE⟩ := rg_cat hown10 rfl (HSl8.out.below Hb10.out) (Hpd.out.below Hb10.out)
             have HSE := Lib.hid hE
             have hs10 := Hb10.out.size
             clear hown10 hg10 hat10 hE)
          | fail)
        obtain ⟨w11, hw11⟩ : ∃ w11 : World, w11 = w10.alloc (.cells #[.slice A0 k c0, .slice (some ⟨D, 0, none⟩) 2 2, .slice RA m rc, .slice E (m + 2) ec] 37) := ⟨_, rfl⟩
        rw [← hw11]
        have hr11 : w11.heap[w10.heap.size]? = some (.cells #[.slice A0 k c0, .slice (some ⟨D, 0, none⟩) 2 2, .slice RA m rc, .slice E (m + 2) ec] 37 (0, 0)) := by rw [hw11]; exact heap_alloc_new w10 _
        have Hb1011 : Hid (Below w10.heap.size w10 w11) := Lib.hid (by rw [hw11]; exact (by repeat' (first | with_reducible exact Below.refl _ _ | with_reducible refine below_drewN ?_ _ | with_reducible refine Below.drew ?_ | with_reducible refine Below.alloc ?_ ?_ _ | with_reducible refine Below.setCell ?_ ?_ _ | with_reducible refine Below.trans ?_ (Below.mono (by with_reducible assumption) ?_) | (simp; done) | (simp; omega) | omega)))
        have Hb11 : Hid (Below w8.heap.size w8 w11) := Lib.hid (Hb10.out.trans (Hb1011.out.mono hs10))
        have HQ : Hid (RgQ w11 w10.heap.size [(L0, ⟨A0, c0⟩), (LD, ⟨some ⟨D, 0, none⟩, 2⟩), (LR, ⟨RA, rc⟩), (LR ++ LD, ⟨E, ec⟩)]) := Lib.hid (RgQ.make hr11 (HS08.out.below Hb11.out) (Hpd.out.below Hb11.out) (HSl8.out.below Hb11.out) (HSE.out.below Hb1011.out) hfr.out Hf.out.1 Hf.out.2.1 Hf.out.2.2)
        clear hw11 hr11 Hb1011 HSE Hb9 Hb10 Hpd HSl8 Hf
        obtain ⟨Q, hQ⟩ : ∃ Q, [(L0, (⟨A0, c0⟩ : HV)), (LD, ⟨some ⟨D, 0, none⟩, 2⟩), (LR, ⟨RA, rc⟩), (LR ++ LD, ⟨E, ec⟩)] = Q := ⟨_, rfl⟩
        have HQ4 : Hid (Q.length = 4) := Lib.hid (by rw [← hQ]; rfl)
        rw [hQ] at HQ
        clear hQ
        have hs11 : w8.heap.size ≤ w11.heap.size := Hb11.out.size
        obtain ⟨G, hG⟩ : ∃ G, w10.heap.size = G := ⟨_, rfl⟩
        rw [hG] at HQ ⊢
        clear hG
        go_upto_region 16 with fail
        go_loopw [86] (fun iv wq => ∃ i : Nat, i ≤ 4 ∧ iv = .int .i64 (i : Int) ∧ Below w11.heap.size w11 wq) (fun iv _ => 4 - (intOf iv).toNat)
        case atStart => exact ⟨0, Nat.zero_le _, rfl, Below.refl _ _⟩
        case round =>
          obtain ⟨i, hi4, rfl, hbi⟩ := hrel
          have Hbi := Lib.hid hbi
          have hsi := hbi.size
          clear hbi
          by_cases hin : i < 4
          · have hin' : (i : Int) < 4 := by omega
            have hi0 : (0 : Int) ≤ (i : Int) := by omega
            have hiq : i < Q.length := by have := HQ4.out; omega
            have cq := (HQ.out.below Hbi.out).cell i hiq
            have Hsl := Lib.hid ((HQ.out.below Hbi.out).sl _ (List.getElem_mem hiq))
            have Hfw := Lib.hid (HQ.out.few _ (List.getElem_mem hiq))
            generalize Q[i] = x at *
            obtain ⟨L, QA, qc⟩ := x
            dsimp only at *
            obtain ⟨qn, hqn⟩ : ∃ qn, L.length = qn := ⟨_, rfl⟩
            have Hqn := Lib.hid hqn
            rw [hqn] at cq Hsl
            clear hqn
            have HF1 := Lib.hid (fun W (h : Below w11.heap.size w11 W) (hb : Below wr.heap.size wr W) => fill_any2 QA qn qc L W (Hsl.out.below hb) Hfw.out)
            have HF2 := Lib.hid (fun W (hb : Below wr.heap.size wr W) => fillR_any QA qn qc L W (Hsl.out.below hb) Hfw.out)
            generalize fillV (rgPts L) = fv at *
            obtain ⟨fl, fe⟩ := fv
            go_upto_region 19 with (first
              | (go_at_call 18
                 refine (HF1.out _ Hbi.out (Below.refl _ _)).mono ?_
                 rintro e y1 ⟨u1, rfl, hown1, hb1⟩
                 obtain ⟨P1, pc1, rfl, hP1⟩ := SlR.of_own hown1
                 dsimp only at hP1 ⊢
                 have HP1 := Lib.hid hP1
                 have Hy1 : Hid (Below wr.heap.size wr y1) := Lib.hid hb1
                 have hy1 := hb1.size
                 clear hown1 hb1 hP1)
              | fail)
            obtain ⟨y2, hy2⟩ : ∃ y2 : World, y2 = y1.alloc (.cells #[.slice P1 fl.length pc1] 25) := ⟨_, rfl⟩
            rw [← hy2]
            have hq1 : y2.heap[y1.heap.size]? = some (.cells #[.slice P1 fl.length pc1] 25 (0, 0)) := by rw [hy2]; exact heap_alloc_new y1 _
            have Hq1 := Lib.hid hq1
            have HP2 : Hid (SlR y2 P1 fl.length pc1 fl) := Lib.hid (by rw [hy2]; exact HP1.out.below (by repeat' (first | with_reducible exact Below.refl _ _ | with_reducible refine below_drewN ?_ _ | with_reducible refine Below.drew ?_ | with_reducible refine Below.alloc ?_ ?_ _ | with_reducible refine Below.setCell ?_ ?_ _ | with_reducible refine Below.trans ?_ (Below.mono (by with_reducible assumption) ?_) | (simp; done) | (simp; omega) | omega)))
            have Hy2 : Hid (Below wr.heap.size wr y2) := Lib.hid (by rw [hy2]; exact Hy1.out.alloc hy1 _)
            have hs2 : y1.heap.size < y2.heap.size := by rw [hy2]; simp
            clear hy2 hq1 HP1 Hy1
            obtain ⟨Y, hY⟩ : ∃ Y, y1.heap.size = Y := ⟨_, rfl⟩
            rw [hY] at Hq1 hs2 hy1 ⊢
            clear hY
            go_upto_region 20 with (first
              | (go_at_call 19
                 refine (HF2.out _ Hy2.out).mono ?_
                 rintro e y3 ⟨u3, rfl, hown3, hb3⟩
                 obtain ⟨P3, pc3, rfl, hP3⟩ := SlR.of_own hown3
                 dsimp only at hP3 ⊢
                 have HP3 := Lib.hid hP3
                 have Hy3 : Hid (Below wr.heap.size wr y3) := Lib.hid (Hy2.out.trans (hb3.mono (by omega)))
                 have Hq3 := Lib.hid ((hb3.block _ hs2).trans Hq1.out)
                 have HP23 := Lib.hid (HP2.out.below hb3)
                 have hs3 := hb3.size
                 clear hown3 hb3 hP3)
              | fail)
            obtain ⟨y4, hy4⟩ : ∃ y4 : World, y4 = y3.alloc (.cells #[.slice P3 fl.length pc3] 25) := ⟨_, rfl⟩
            rw [← hy4]
            have hq4 : y4.heap[y3.heap.size]? = some (.cells #[.slice P3 fl.length pc3] 25 (0, 0)) := by rw [hy4]; exact heap_alloc_new y3 _
            have Hb34 : Hid (Below y3.heap.size y3 y4) := Lib.hid (by rw [hy4]; exact (by repeat' (first | with_reducible exact Below.refl _ _ | with_reducible refine below_drewN ?_ _ | with_reducible refine Below.drew ?_ | with_reducible refine Below.alloc ?_ ?_ _ | with_reducible refine Below.setCell ?_ ?_ _ | with_reducible refine Below.trans ?_ (Below.mono (by with_reducible assumption) ?_) | (simp; done) | (simp; omega) | omega)))
            have Hy4 : Hid (Below wr.heap.size wr y4) := Lib.hid (Hy3.out.trans (Hb34.out.mono (by omega)))
            have k1 := cell_of_row y4 Y 0 _ _ _ ((Hb34.out.block _ (by omega)).trans Hq3.out)
            have k3 := cell_of_row y4 y3.heap.size 0 _ _ _ hq4
            have HPa := Lib.hid (HP23.out.below Hb34.out)
            have HPb := Lib.hid (HP3.out.below Hb34.out)
            have hs4 : y3.heap.size < y4.heap.size := by rw [hy4]; simp
            clear hy4 hq4 Hq3 Hq1 HP23 HP3 HP2 Hy2 Hy3 HF1 HF2
            go_upto_region 23 with (first
              | (go_at_call 20
                 refine (sameRef_any P1 P3 fl.length pc1 fl.length pc3 fl fl _ HPa.out HPb.out).mono ?_
                 rintro e y5 ⟨rfl, hb5⟩
                 rw [decide_eq_true rfl]
                 have Hy5 : Hid (Below wr.heap.size wr y5) := Lib.hid (Hy4.out.trans (hb5.mono (by omega)))
                 clear hb5)
              | fail)
            clear k1 k3 Hb34 HPa HPb Hy4
            have hs5 := Hy5.out.size
            have Hsl5 := Lib.hid (Hsl.out.below Hy5.out)
            have hq63 : qn ≤ 9223372036854775807 := by have h1 := Hsl5.out.cap; have h2 := Hsl5.out.top; unfold maxLen at h2; omega
            go_loopw [111] (fun jv wq => ∃ j : Nat, j ≤ qn ∧ jv = .int .i64 (j : Int) ∧ Below y5.heap.size y5 wq) (fun jv _ => qn - (intOf jv).toNat)
            case atStart => exact ⟨0, Nat.zero_le _, rfl, Below.refl _ _⟩
            case round =>
              obtain ⟨j, hjn, rfl, hbj⟩ := hrel
              have Hbj := Lib.hid hbj
              have hsj := hbj.size
              clear hbj
              by_cases hj : j < qn
              · have hj' : (j : Int) < (qn : Int) := by omega
                have hj0 : (0 : Int) ≤ (j : Int) := by omega
                have hjl : j < L.length := by have := Hqn.out; omega
                obtain ⟨rb, ro, rfl, hrb, r0, hfit⟩ := (Hsl5.out.below Hbj.out).at j hjl
                have Hfit := Lib.hid hfit
                clear hfit
                generalize L[j] = lj at *
                obtain ⟨r, RA2, rc2⟩ := lj
                dsimp only at *
                obtain ⟨rn, hrn⟩ : ∃ rn, r.length = rn := ⟨_, rfl⟩
                rw [hrn] at Hfit r0
                clear hrn
                have HG1 := Lib.hid (fun W (hb : Below wr.heap.size wr W) => signedO_any RA2 rn rc2 r W (Hfit.out.below hb))
                have HG2 := Lib.hid (fun W (hb : Below wr.heap.size wr W) => signedR_of ringR_any RA2 rn rc2 r W (Hfit.out.below hb))
                have HG3 := Lib.hid (fun W (hb : Below wr.heap.size wr W) => ring_any RA2 rn rc2 r W (Hfit.out.below hb))
                have HG4 := Lib.hid (fun W (hb : Below wr.heap.size wr W) => ringR_any RA2 rn rc2 r W (Hfit.out.below hb))
                generalize signedV r = sv at *
                obtain ⟨s1, s2⟩ := sv
                generalize ringP r = rp at *
                dsimp only at HG1 HG2
                have Hr0 : Hid (∀ W, Below wr.heap.size wr W → W.cell? ⟨rb, ro + j, none⟩ = some (.slice RA2 rn rc2)) := Lib.hid (fun W hW => (hW.cell (p := ⟨rb, ro + j, none⟩) hrb).trans r0)
                go_upto_region 26 with (first
                  | (go_at_call 21
                     refine (HG1.out _ (Below.refl _ _)).mono ?_
                     rintro e z1 ⟨rfl, hb1⟩
                     have Hz1 := Lib.hid hb1
                     have r1 := Hr0.out _ hb1
                     have hz1 := hb1.size
                     clear hb1)
                  | fail)
                go_upto_region 27 with (first
                  | (go_at_call 22
                     refine (HG2.out _ Hz1.out).mono ?_
                     rintro e z2 ⟨rfl, hb2⟩
                     have Hz2 : Hid (Below wr.heap.size wr z2) := Lib.hid (Hz1.out.trans (hb2.mono hz1))
                     have r2 := Hr0.out _ Hz2.out
                     have hz2 := Hz2.out.size
                     clear hb2)
                  | fail)
                clear r0 r1 Hz1 hz1 HG1 HG2
                have hrb2 : rb < z2.heap.size := by omega
                refine wp_region_below (W := z2) z2.heap.size (Nat.le_refl _) (by kernel_rfl) (by kernel_rfl) ?_
                intro I _ F hFc hFb hFs
                repeat (go_big_quiet_step (first
                  | (go_at_call 14; with_reducible exact class_call hFb hFs (Nat.le_refl _) (HG3.out _ (Hz2.out.trans ((hFb _).mono hz2))))
                  | (go_at_call 23; with_reducible exact class_call hFb hFs (Nat.le_refl _) (HG4.out _ (Hz2.out.trans ((hFb _).mono hz2))))))
                refine wpQuiet_nil ?_
                rintro _ ⟨iq, rfl⟩
                have Hfq : Hid (Below y5.heap.size y5 (F iq)) := Lib.hid (Hbj.out.trans ((Hz2.out.trans ((hFb iq).mono hz2)).mono hsj))
                generalize F iq = wq at *
                clear hFc hFb hFs r2
                go_wp2_with fail
                go_roundw
                case rel => exact ⟨j + 1, by omega, by go_num, Hfq.out⟩
                case measure => simp [intOf]; omega
              · obtain rfl : j = qn := by omega
                have hj' : ¬ (j : Int) < (j : Int) := by omega
                go_wp2_with fail
                go_roundw
                case rel => exact ⟨i + 1, by omega, by go_num, Hbi.out.trans ((Hy5.out.trans (Hbj.out.mono hs5)).mono hsi)⟩
                case measure => simp [intOf]; omega
          · obtain rfl : i = 4 := by omega
            rw [show ((4 : Nat) : Int) = 4 from rfl]
            have Hb8r : Hid (Below w8.heap.size w8 wr) := Lib.hid (Hb11.out.trans (Hbi.out.mono hs11))
            have hs8r := Hb8r.out.size
            have k1 := cell_of_row wr w.heap.size 0 _ _ _ ((Hb8r.out.block _ hwX).trans Hra8.out)
            have k2 := cell_of_row wr X 0 _ _ _ ((Hb8r.out.block _ hX8).trans Hbox.out)
            clear HQ HQ4 Hbi hsi
            go_upto_region 32 with fail
            clear k1 k2
            obtain ⟨x1, hx1⟩ : ∃ x1 : World, x1 = wr.alloc (.cells #[.slice A1 n1 c1, .slice B bn bc] 25) := ⟨_, rfl⟩
            rw [← hx1]
            have hrx : x1.heap[wr.heap.size]? = some (.cells #[.slice A1 n1 c1, .slice B bn bc] 25 (0, 0)) := by rw [hx1]; exact heap_alloc_new wr _
            have Hbx : Hid (Below w8.heap.size w8 x1) := Lib.hid (by rw [hx1]; exact Hb8r.out.alloc hs8r _)
            have HQ : Hid (RcQ x1 wr.heap.size [(L1, ⟨A1, c1⟩), (bl, ⟨B, bc⟩)]) := Lib.hid (RcQ.make hrx (HS18.out.below Hbx.out) (HSb.out.below Hbx.out) HE1.out HEb.out)
            clear hx1 hrx
            obtain ⟨Q, hQ⟩ : ∃ Q, [(L1, (⟨A1, c1⟩ : HV)), (bl, ⟨B, bc⟩)] = Q := ⟨_, rfl⟩
            have HQ2 : Hid (Q.length = 2) := Lib.hid (by rw [← hQ]; rfl)
            rw [hQ] at HQ
            clear hQ
            have hsx : w8.heap.size ≤ x1.heap.size := Hbx.out.size
            obtain ⟨G2, hG2⟩ : ∃ G2, wr.heap.size = G2 := ⟨_, rfl⟩
            rw [hG2] at HQ ⊢
            clear hG2 Hb8r hs8r
            go_loopw [157] (fun iv wq => ∃ i : Nat, i ≤ 2 ∧ iv = .int .i64 (i : Int) ∧ Below x1.heap.size x1 wq) (fun iv _ => 2 - (intOf iv).toNat)
            case atStart => exact ⟨0, Nat.zero_le _, rfl, Below.refl _ _⟩
            case round =>
              obtain ⟨i, hi2, rfl, hbi⟩ := hrel
              have Hbi := Lib.hid hbi
              have hsi := hbi.size
              clear hbi
              by_cases hin : i < 2
              · have hin' : (i : Int) < 2 := by omega
                have hi0 : (0 : Int) ≤ (i : Int) := by omega
                have hiq : i < Q.length := by have := HQ2.out; omega
                have cq := (HQ.out.below Hbi.out).cell i hiq
                have Hsl := Lib.hid ((HQ.out.below Hbi.out).sl _ (List.getElem_mem hiq))
                have Hfw := Lib.hid (HQ.out.few _ (List.getElem_mem hiq))
                generalize Q[i] = x at *
                obtain ⟨l, QA, qc⟩ := x
                dsimp only at *
                obtain ⟨qn, hqn⟩ : ∃ qn, l.length = qn := ⟨_, rfl⟩
                rw [hqn] at cq Hsl
                clear hqn
                have HF1 := Lib.hid (fun W (hb : Below wr.heap.size wr W) => rings_any2 QA qn qc l W (Hsl.out.below hb) Hfw.out)
                have HF2 := Lib.hid (fun W (hb : Below wr.heap.size wr W) => rings5_any QA qn qc l W (Hsl.out.below hb))
                have HF3 := Lib.hid (fun W (hb : Below wr.heap.size wr W) => bordO_any QA qn qc l W (Hsl.out.below hb))
                have HF4 := Lib.hid (fun W (hb : Below wr.heap.size wr W) => bord5_any QA qn qc l W (Hsl.out.below hb))
                generalize bordV l = bv at *
                obtain ⟨bv1, bv2⟩ := bv
                dsimp only at HF3 HF4
                go_upto_region 34 with fail
                obtain ⟨y1, hy1⟩ : ∃ y1 : World, y1 = wr.alloc (.cells #[.slice QA qn qc] 25) := ⟨_, rfl⟩
                rw [← hy1]
                have hq1 : y1.heap[wr.heap.size]? = some (.cells #[.slice QA qn qc] 25 (0, 0)) := by rw [hy1]; exact heap_alloc_new wr _
                have Hy1 : Hid (Below wr.heap.size wr y1) := Lib.hid (by rw [hy1]; exact (by repeat' (first | with_reducible exact Below.refl _ _ | with_reducible refine below_drewN ?_ _ | with_reducible refine Below.drew ?_ | with_reducible refine Below.alloc ?_ ?_ _ | with_reducible refine Below.setCell ?_ ?_ _ | with_reducible refine Below.trans ?_ (Below.mono (by with_reducible assumption) ?_) | (simp; done) | (simp; omega) | omega)))
                have hs1 : wr.heap.size < y1.heap.size := by rw [hy1]; simp
                have Hbl : Hid (∀ W, Below y1.heap.size y1 W → W.cell? ⟨wr.heap.size, 0, none⟩ = some (.slice QA qn qc)) := Lib.hid (fun W hW => cell_of_row W wr.heap.size 0 _ _ _ ((hW.block _ hs1).trans hq1))
                have k0 := Hbl.out y1 (Below.refl _ _)
                clear hy1 hq1 cq
                obtain ⟨Y, hY⟩ : ∃ Y, wr.heap.size = Y := ⟨_, rfl⟩
                have HYe := Lib.hid hY
                rw [hY] at k0 Hbl ⊢
                clear hY
                go_upto_region 35 with (first
                  | (go_at_call 13
                     refine (HF1.out _ Hy1.out).mono ?_
                     rintro e y2 ⟨u2, rs2, er2, rfl, hrg2, hb2, hres2⟩
                     obtain ⟨R2, rc2, l2, rfl, hsl2, hrp2⟩ := hrg2.sl
                     have Hz2 := Lib.hid hb2
                     have k2 := Hbl.out _ hb2
                     have HSl2 := Lib.hid hsl2
                     have Hres2 : Hid (RgRes l (rgPts l2) er2) := Lib.hid (by rw [hrp2]; exact hres2)
                     have hs2 := hb2.size
                     clear hrg2 hb2 hres2 hsl2 hrp2)
                  | fail)
                go_upto_region 36 with (first
                  | (go_at_call 17
                     refine (HF2.out _ (Hy1.out.trans (Hz2.out.mono (by omega)))).mono ?_
                     rintro e y3 ⟨u3, rs3, er3, rfl, hrg3, hb3, hres3⟩
                     obtain ⟨R3, rc3, l3, rfl, hsl3, hrp3⟩ := hrg3.sl
                     have Hz3 : Hid (Below y1.heap.size y1 y3) := Lib.hid (Hz2.out.trans (hb3.mono hs2))
                     have k3 := Hbl.out _ Hz3.out
                     have HSl3 := Lib.hid hsl3
                     have HSl23 := Lib.hid (HSl2.out.below hb3)
                     have Hres3 : Hid (RgRes5 l (rgPts l3) er3) := Lib.hid (by rw [hrp3]; exact hres3)
                     have hs3 := Hz3.out.size
                     clear hrg3 hb3 hres3 hsl3 hrp3)
                  | fail)
                go_upto_region 37 with (first
                  | (go_at_call 11
                     refine (HF3.out _ (Hy1.out.trans (Hz3.out.mono (by omega)))).mono ?_
                     rintro e y4 ⟨rfl, hb4⟩
                     have Hz34 := Lib.hid hb4
                     have Hz4 : Hid (Below y1.heap.size y1 y4) := Lib.hid (Hz3.out.trans (hb4.mono hs3))
                     have k4 := Hbl.out _ Hz4.out
                     have hs4 := Hz4.out.size
                     have hs34 := hb4.size
                     clear hb4)
                  | fail)
                go_upto_region 38 with (first
                  | (go_at_call 24
                     refine (HF4.out _ (Hy1.out.trans (Hz4.out.mono (by omega)))).mono ?_
                     rintro e y5 ⟨rfl, hb5⟩
                     have Hz5 : Hid (Below y1.heap.size y1 y5) := Lib.hid (Hz4.out.trans (hb5.mono hs4))
                     have Hz35 : Hid (Below y3.heap.size y3 y5) := Lib.hid (Hz34.out.trans (hb5.mono hs34))
                     have hs5 := Hz5.out.size
                     clear hb5)
                  | fail)
                obtain ⟨hpts, herr⟩ := rgRes_same Hres2.out Hres3.out
                subst herr
                have HSm := Lib.hid (sameRg_any R2 R3 _ rc2 _ rc3 l2 l3 y5 (HSl23.out.below Hz35.out) (HSl3.out.below Hz35.out))
                rw [decide_eq_true hpts] at HSm
                clear hpts Hres2 Hres3 HF1 HF2 HF3 HF4 k0 k2 k3 k4 HSl2 HSl3 HSl23
                go_wp2_with (first
                  | (go_at_call 25
                     refine HSm.out.mono ?_
                     rintro e y6 ⟨rfl, hb6⟩
                     have Hy6 : Hid (Below x1.heap.size x1 y6) := Lib.hid (Hbi.out.trans ((Hy1.out.trans ((Hz5.out.trans (hb6.mono hs5)).mono (by omega))).mono hsi))
                     clear hb6)
                  | fail)
                go_roundw
                case rel => exact ⟨i + 1, by omega, by go_num, Hy6.out⟩
                case measure => simp [intOf]; omega
              · obtain rfl : i = 2 := by omega
                rw [show ((2 : Nat) : Int) = 2 from rfl]
                go_wp2_with (first
                  | (go_at_call 12; refine (HAw.out _).mono ?_; rintro e w9 ⟨rfl, hb9⟩; have Hb9 : Hid (Below w.heap.size w w9) := Lib.hid (Hbw8.out.trans ((Hbx.out.trans ((Hbi.out.trans (hb9.mono hsi)).mono hsx)).mono (by omega))); clear hb9)
                  | fail)
                go_ret
                exact ⟨rfl, Hb9.out⟩
end Go.Proofs.YtpcfhcdbibklcaaGreat
namespace Go.Proofs.YtpcfhcdbibklcaaGreat
open Go.ChangeShapes Go.WideShapes Go.ChangeAt Go.RowKit
set_option linter.unusedVariables false

theorem open_lies {H : Type} {enc : TypeId × Value → H} {P : Program} {W : World} {r : Reach} {base : Nat} {t e : TypeId} {k : IntKind} {v : Value} {d : DataW H} {p : List MemPlace}
    (ht : P.underlying t = some (.slice e)) (he : P.underlying e = some (.int k)) (hC : P.cellsOf e = 1) (hv : Value.okWide P W r base t v) (h : DataW.Trod enc P W 0 (fun _ => true) true t v d p) :
    ∃ (A : Option Addr) (n c : Nat) (zs : List Int), v = .slice A n c ∧ zs.length = n ∧ (n ≤ c ∧ c ≤ maxLen) ∧ Lies W A n (zs.map (.int k)) ∧ ∀ z ∈ zs, (Lit.int k z).wf = true := by
  obtain ⟨A, n, c, rfl⟩ := okWide_slice ht hv
  obtain ⟨fuel, hf⟩ := h
  rcases open_ints ht he hC hf with ⟨hcs, _⟩ | ⟨x, l, c', zs, hcs, _, hl, hm, hz, _, hcell, hwz⟩
  · simp [Value.cells] at hcs
    obtain ⟨rfl, rfl, rfl⟩ := hcs
    exact ⟨none, 0, 0, [], rfl, rfl, ⟨Nat.le_refl _, Nat.zero_le _⟩, .inl rfl, fun z hz => by cases hz⟩
  · simp [Value.cells] at hcs
    obtain ⟨rfl, rfl, rfl⟩ := hcs
    have hz' : zs.length = c := by simpa using hz
    refine ⟨some x, n, c, zs.take n, rfl, by rw [List.length_take]; omega, ⟨hl, hm⟩, ?_, fun z hz => hwz z (List.mem_of_mem_take hz)⟩
    by_cases h0 : n = 0
    · exact .inl h0
    · obtain ⟨b, off, spot⟩ := x
      have hc0 := hcell 0 (by omega)
      have hspot : spot = none := by simpa [Addr.add] using World.cell?_spot hc0
      subst hspot
      have hb := World.block_lt_of_cell? W _ hc0
      rw [add_none] at hb
      refine .inr ⟨b, off, rfl, hb, fun j u hu => ?_⟩
      have hj : j < n := by
        rcases Nat.lt_or_ge j n with h | h
        · exact h
        · rw [List.getElem?_eq_none (by simp; omega)] at hu; cases hu
      have := hcell j (by omega)
      rw [add_none] at this
      rw [this]
      rw [List.getElem?_map, List.getElem?_take, if_pos hj] at hu
      rw [List.getElem?_eq_getElem (by omega)] at hu
      rw [List.getD_eq_getElem?_getD, List.getElem?_eq_getElem (by omega)]
      simpa using hu
end Go.Proofs.YtpcfhcdbibklcaaGreat
namespace Go.Proofs.YtpcfhcdbibklcaaGreat
open Go.ChangeShapes Go.WideShapes Go.ChangeAt Go.RowKit
set_option linter.unusedVariables false

theorem cInt : Tryz.prog.cellsOf 3 = 1 := by kernel_rfl
theorem cRect : Tryz.prog.cellsOf 58 = 4 := by kernel_rfl
theorem cRects : Tryz.prog.cellsOf 23 = 1 := by kernel_rfl
theorem cRegion : Tryz.prog.cellsOf 25 = 1 := by kernel_rfl

set_option maxRecDepth 100000 in
theorem rect_cells {H : Type} {enc : TypeId × Value → H} {W : World} {base : Nat} {spare : Nat → Bool} {held : Bool} {fuel : Nat} {cs : List Value} {x : DataW H × List MemPlace} (h : DataW.trod enc Tryz.prog W base spare held fuel 58 cs = some x) : ∃ f : R4, cs = f.cells := by
  obtain ⟨xs, n, rfl, _, hlen, hxl, hf⟩ := DataW.trod_struct Tryz.underlying58 h
  rw [cRect] at hlen
  match cs, hlen with
  | [c0, c1, c2, c3], _ =>
    match xs, hxl with
    | [x0, x1, x2, x3], _ =>
      have g0 : DataW.trod enc Tryz.prog W base spare held n 3 [c0] = some x0 := by have := hf 0 _ rfl; simpa [cInt] using this
      have g1 : DataW.trod enc Tryz.prog W base spare held n 3 [c1] = some x1 := by have := hf 1 _ rfl; simpa [cInt] using this
      have g2 : DataW.trod enc Tryz.prog W base spare held n 3 [c2] = some x2 := by have := hf 2 _ rfl; simpa [cInt] using this
      have g3 : DataW.trod enc Tryz.prog W base spare held n 3 [c3] = some x3 := by have := hf 3 _ rfl; simpa [cInt] using this
      obtain ⟨a0, e0, _, _⟩ := DataW.trod_int Tryz.underlying3 g0
      obtain ⟨a1, e1, _, _⟩ := DataW.trod_int Tryz.underlying3 g1
      obtain ⟨a2, e2, _, _⟩ := DataW.trod_int Tryz.underlying3 g2
      obtain ⟨a3, e3, _, _⟩ := DataW.trod_int Tryz.underlying3 g3
      simp only [List.cons.injEq, and_true] at e0 e1 e2 e3
      exact ⟨⟨a0, a1, a2, a3⟩, by rw [e0, e1, e2, e3]; rfl⟩
theorem gatherL {α : Type} {P : Nat → α → Prop} (n : Nat) (h : ∀ i, i < n → ∃ f, P i f) : ∃ L : List α, L.length = n ∧ ∀ i (hi : i < L.length), P i L[i] := by
  induction n with
  | zero => exact ⟨[], rfl, fun i hi => by simp at hi⟩
  | succ n ih =>
    obtain ⟨L, hl, hL⟩ := ih fun i hi => h i (by omega)
    obtain ⟨f, hf⟩ := h n (by omega)
    refine ⟨L ++ [f], by simp [hl], fun i hi => ?_⟩
    by_cases hin : i < L.length
    · rw [List.getElem_append_left hin]; exact hL i hin
    · have : i = n := by simp at hi; omega
      subst this
      rw [List.getElem_append_right (by omega)]
      simpa [hl] using hf
set_option maxRecDepth 100000 in
theorem rects_cells {H : Type} {enc : TypeId × Value → H} {W : World} {fuel : Nat} {v : Value} {x : DataW H × List MemPlace} {held : Bool} (h : DataW.trod enc Tryz.prog W 0 (fun _ => true) held fuel 23 [v] = some x) :
    ∃ (A : Option Addr) (c : Nat) (L : List R4), v = .slice A L.length c ∧ SlR W A L.length c L := by
  rcases Go.Deep.open_slice Tryz.underlying23 h with ⟨hcs, _⟩ | ⟨a, len, cap, m, n', D, Pl, hcs, _, hl, hm, hmm, _, hel⟩
  · injection hcs with hcs
    exact ⟨none, 0, [], hcs, SlR.nil W⟩
  · injection hcs with hcs
    have hm' : m = cap := by simpa using hmm
    subst hm'
    rw [cRect] at hel
    obtain ⟨L, hL, hP⟩ := gatherL (P := fun i (f : R4) => W.cells? 0 (a.add (i * 4)) 4 = some f.cells) len (fun i hi => by
      obtain ⟨cs', hc, ht⟩ := hel i (by omega)
      obtain ⟨f, rfl⟩ := rect_cells ht
      exact ⟨f, hc⟩)
    subst hL
    refine ⟨some a, m, L, hcs, rfl, hl, hm, ?_⟩
    by_cases h0 : L.length = 0
    · exact .inl h0
    · obtain ⟨b, off, spot⟩ := a
      have hc0 := hP 0 (by omega)
      obtain ⟨_, _, hat0⟩ := World.cells?_some hc0
      have hc00 := hat0 0 (by decide)
      have hspot : spot = none := by simpa [Addr.add] using World.cell?_spot (hc00.trans rfl)
      subst hspot
      have hb := World.block_lt_of_cell? W _ (hc00.trans rfl)
      rw [add_none, add_none] at hb
      refine .inr ⟨b, off, rfl, hb, fun j u hu => ?_⟩
      have hj : j < L.length * 4 := by
        rcases Nat.lt_or_ge j (rCells L).length with h | h
        · rw [rCells_len] at h; exact h
        · rw [List.getElem?_eq_none h] at hu; cases hu
      have hi : j / 4 < L.length := by omega
      obtain ⟨_, _, hat⟩ := World.cells?_some (hP (j / 4) hi)
      have hx := hat (j % 4) (by omega)
      rw [add_none, add_none] at hx
      have ej : off + j / 4 * 4 + j % 4 = off + j := by omega
      rw [ej] at hx
      rw [hx, ← hu]
      obtain ⟨i0, i1, i2, i3⟩ := rCells_at L (j / 4) hi
      have ej' : (rCells L)[j]? = (rCells L)[j / 4 * 4 + j % 4]? := congrArg (fun z => (rCells L)[z]?) (by omega)
      rw [ej']
      rcases (show j % 4 = 0 ∨ j % 4 = 1 ∨ j % 4 = 2 ∨ j % 4 = 3 by omega) with e | e | e | e
      · rw [e]; exact i0.symm
      · rw [e]; exact i1.symm
      · rw [e]; exact i2.symm
      · rw [e]; exact i3.symm
set_option maxRecDepth 100000 in
theorem region_cells {H : Type} {enc : TypeId × Value → H} {W : World} {fuel : Nat} {cs : List Value} {x : DataW H × List MemPlace} {held : Bool} (h : DataW.trod enc Tryz.prog W 0 (fun _ => true) held fuel 25 cs = some x) :
    ∃ (A : Option Addr) (c : Nat) (L : List R4), cs = [.slice A L.length c] ∧ SlR W A L.length c L := by
  obtain ⟨xs, n, rfl, _, hlen, hxl, hf⟩ := DataW.trod_struct Tryz.underlying25 h
  rw [cRegion] at hlen
  match cs, hlen with
  | [c0], _ =>
    match xs, hxl with
    | [x0], _ =>
      have g0 : DataW.trod enc Tryz.prog W 0 (fun _ => true) held n 23 [c0] = some x0 := by have := hf 0 _ rfl; simpa [cRects] using this
      obtain ⟨A, c, L, rfl, hS⟩ := rects_cells g0
      exact ⟨A, c, L, rfl, hS⟩
set_option maxRecDepth 100000 in
theorem open_region {H : Type} {enc : TypeId × Value → H} {W : World} {r : Reach} {base : Nat} {v : Value} {d : DataW H} {p : List MemPlace}
    (hv : Value.okWide Tryz.prog W r base 25 v) (h : DataW.Trod enc Tryz.prog W 0 (fun _ => true) true 25 v d p) :
    ∃ (A : Option Addr) (c : Nat) (L : List R4), v = .agg #[.slice A L.length c] ∧ SlR W A L.length c L := by
  obtain ⟨cs, rfl, hsz⟩ := okWide_struct Tryz.underlying25 hv
  obtain ⟨fuel, hf⟩ := h
  obtain ⟨A, c, L, hc, hS⟩ := region_cells hf
  refine ⟨A, c, L, ?_, hS⟩
  obtain ⟨l⟩ := cs
  have : l = [.slice A L.length c] := by simpa [Value.cells] using hc
  rw [this]
end Go.Proofs.YtpcfhcdbibklcaaGreat
namespace Go.Proofs.YtpcfhcdbibklcaaGreat
open Go.ChangeShapes Go.WideShapes Go.ChangeAt Go.RowKit
set_option linter.unusedVariables false

theorem flat_at {α : Type} (f : α → List Value) (k : Nat) (hk : 0 < k) : ∀ (L : List α), (∀ x ∈ L, (f x).length = k) → ∀ j (hj : j / k < L.length), (L.flatMap f)[j]? = (f (L[j / k]'hj))[j % k]?
  | [], _, j, hj => by simp at hj
  | a :: t, h, j, hj => by
    rw [List.flatMap_cons]
    have ha := h a (by simp)
    by_cases hlt : j < k
    · rw [List.getElem?_append_left (by omega)]
      have e1 : j / k = 0 := Nat.div_eq_of_lt hlt
      have e2 : j % k = j := Nat.mod_eq_of_lt hlt
      simp only [e1, e2, List.getElem_cons_zero]
    · rw [List.getElem?_append_right (by omega), ha]
      have e1 : j / k = (j - k) / k + 1 := Nat.div_eq_sub_div hk (by omega)
      have e2 : j % k = (j - k) % k := by rw [Nat.mod_eq_sub_mod (by omega)]
      have hj' : (j - k) / k < t.length := by rw [e1] at hj; simpa using hj
      rw [flat_at f k hk t (fun x hx => h x (by simp [hx])) (j - k) hj']
      simp only [e1, e2, List.getElem_cons_succ]
theorem lies_of {α : Type} (f : α → List Value) (k : Nat) (hk : 0 < k) (L : List α) (hf : ∀ x ∈ L, (f x).length = k) {W : World} {a : Addr} (h : ∀ i (hi : i < L.length), W.cells? 0 (a.add (i * k)) k = some (f L[i])) : Lies W (some a) L.length (L.flatMap f) := by
  by_cases h0 : L.length = 0
  · exact .inl h0
  · obtain ⟨b, off, spot⟩ := a
    have hl0 := hf L[0] (List.getElem_mem (by omega))
    obtain ⟨_, _, hat0⟩ := World.cells?_some (h 0 (by omega))
    have hc00 := hat0 0 hk
    have hz : ∃ z, (f L[0])[0]? = some z := ⟨_, List.getElem?_eq_getElem (by omega)⟩
    obtain ⟨z, hz⟩ := hz
    rw [hz] at hc00
    have hspot : spot = none := by simpa [Addr.add] using World.cell?_spot hc00
    subst hspot
    have hb := World.block_lt_of_cell? W _ hc00
    rw [add_none, add_none] at hb
    refine .inr ⟨b, off, rfl, hb, fun j u hu => ?_⟩
    have hL : (L.flatMap f).length = L.length * k := by
      have : ∀ M : List α, (∀ x ∈ M, (f x).length = k) → (M.flatMap f).length = M.length * k := by
        intro M
        induction M with
        | nil => intro _; simp
        | cons x t ih => intro hM; rw [List.flatMap_cons, List.length_append, hM x (by simp), ih fun y hy => hM y (by simp [hy]), List.length_cons, Nat.succ_mul]; omega
      exact this L hf
    have hj : j < L.length * k := by
      rcases Nat.lt_or_ge j (L.flatMap f).length with h | h
      · omega
      · rw [List.getElem?_eq_none h] at hu; cases hu
    have hi : j / k < L.length := (Nat.div_lt_iff_lt_mul hk).2 hj
    obtain ⟨_, _, hat⟩ := World.cells?_some (h (j / k) hi)
    have hx := hat (j % k) (Nat.mod_lt _ hk)
    rw [add_none, add_none] at hx
    have ej : off + j / k * k + j % k = off + j := by
      have := Nat.div_add_mod j k
      rw [Nat.mul_comm] at this
      omega
    rw [ej] at hx
    rw [hx, ← hu, flat_at f k hk L hf j hi]
theorem cPoint : Tryz.prog.cellsOf 43 = 2 := by kernel_rfl
theorem cPts : Tryz.prog.cellsOf 40 = 1 := by kernel_rfl
set_option maxRecDepth 100000 in
theorem point_cells {H : Type} {enc : TypeId × Value → H} {W : World} {base : Nat} {spare : Nat → Bool} {held : Bool} {fuel : Nat} {cs : List Value} {x : DataW H × List MemPlace} (h : DataW.trod enc Tryz.prog W base spare held fuel 43 cs = some x) : ∃ f : Pt, cs = encPt f := by
  obtain ⟨xs, n, rfl, _, hlen, hxl, hf⟩ := DataW.trod_struct Tryz.underlying43 h
  rw [cPoint] at hlen
  match cs, hlen with
  | [c0, c1], _ =>
    match xs, hxl with
    | [x0, x1], _ =>
      have g0 : DataW.trod enc Tryz.prog W base spare held n 3 [c0] = some x0 := by have := hf 0 _ rfl; simpa [cInt] using this
      have g1 : DataW.trod enc Tryz.prog W base spare held n 3 [c1] = some x1 := by have := hf 1 _ rfl; simpa [cInt] using this
      obtain ⟨a0, e0, _, _⟩ := DataW.trod_int Tryz.underlying3 g0
      obtain ⟨a1, e1, _, _⟩ := DataW.trod_int Tryz.underlying3 g1
      simp only [List.cons.injEq, and_true] at e0 e1
      exact ⟨(a0, a1), by rw [e0, e1]; rfl⟩
set_option maxRecDepth 100000 in
theorem pts_cells {H : Type} {enc : TypeId × Value → H} {W : World} {fuel : Nat} {v : Value} {x : DataW H × List MemPlace} {held : Bool} (h : DataW.trod enc Tryz.prog W 0 (fun _ => true) held fuel 40 [v] = some x) :
    ∃ (A : Option Addr) (c : Nat) (L : List Pt), v = .slice A L.length c ∧ SlPt W A L.length c L := by
  rcases Go.Deep.open_slice Tryz.underlying40 h with ⟨hcs, _⟩ | ⟨a, len, cap, m, n', D, Pl, hcs, _, hl, hm, hmm, _, hel⟩
  · injection hcs with hcs
    exact ⟨none, 0, [], hcs, rfl, Nat.le_refl _, Nat.zero_le _, .inl rfl⟩
  · injection hcs with hcs
    have hm' : m = cap := by simpa using hmm
    subst hm'
    rw [cPoint] at hel
    obtain ⟨L, hL, hP⟩ := gatherL (P := fun i (f : Pt) => W.cells? 0 (a.add (i * 2)) 2 = some (encPt f)) len (fun i hi => by
      obtain ⟨cs', hc, ht⟩ := hel i (by omega)
      obtain ⟨f, rfl⟩ := point_cells ht
      exact ⟨f, hc⟩)
    subst hL
    exact ⟨some a, m, L, hcs, rfl, hl, hm, lies_of encPt 2 (by omega) L (fun _ _ => rfl) (fun i hi => hP i hi)⟩
theorem rgH_flat (l : RgL) : l.flatMap (fun x => [rgH x]) = l.map rgH := by
  induction l with
  | nil => rfl
  | cons a t ih => rw [List.flatMap_cons, ih]; rfl
set_option maxRecDepth 100000 in
theorem rgs_cells {H : Type} {enc : TypeId × Value → H} {W : World} {fuel : Nat} {v : Value} {x : DataW H × List MemPlace} {held : Bool} (h : DataW.trod enc Tryz.prog W 0 (fun _ => true) held fuel 37 [v] = some x) :
    ∃ (A : Option Addr) (c : Nat) (L : RgL), v = .slice A L.length c ∧ SlRg W A L.length c L := by
  rcases Go.Deep.open_slice Tryz.underlying37 h with ⟨hcs, _⟩ | ⟨a, len, cap, m, n', D, Pl, hcs, _, hl, hm, hmm, _, hel⟩
  · injection hcs with hcs
    exact ⟨none, 0, [], hcs, rfl, Nat.le_refl _, Nat.zero_le _, .inl rfl, fun x hx => by cases hx⟩
  · injection hcs with hcs
    have hm' : m = cap := by simpa using hmm
    subst hm'
    rw [cPts] at hel
    obtain ⟨L, hL, hP⟩ := gatherL (P := fun i (f : List Pt × HV) => W.cells? 0 (a.add (i * 1)) 1 = some [rgH f] ∧ SlPt W f.2.a f.1.length f.2.c f.1) len (fun i hi => by
      obtain ⟨cs', hc, ht⟩ := hel i (by omega)
      have hlen : cs'.length = 1 := (World.cells?_some hc).2.1
      obtain ⟨v0, rfl⟩ := List.length_eq_one_iff.1 hlen
      obtain ⟨A, c, r, rfl, hS⟩ := pts_cells ht
      exact ⟨(r, ⟨A, c⟩), hc, hS⟩)
    subst hL
    refine ⟨some a, m, L, hcs, rfl, hl, hm, ?_, fun x hx => ?_⟩
    · rw [← rgH_flat]
      exact lies_of (fun x => [rgH x]) 1 (by omega) L (fun _ _ => rfl) (fun i hi => (hP i hi).1)
    · obtain ⟨i, hi, rfl⟩ := List.getElem_of_mem hx
      exact (hP i hi).2
set_option maxRecDepth 100000 in
theorem open_rings {H : Type} {enc : TypeId × Value → H} {W : World} {r : Reach} {base : Nat} {v : Value} {d : DataW H} {p : List MemPlace}
    (hv : Value.okWide Tryz.prog W r base 37 v) (h : DataW.Trod enc Tryz.prog W 0 (fun _ => true) true 37 v d p) :
    ∃ (A : Option Addr) (c : Nat) (L : RgL), v = .slice A L.length c ∧ SlRg W A L.length c L := by
  obtain ⟨A, n, c, rfl⟩ := okWide_slice Tryz.underlying37 hv
  obtain ⟨fuel, hf⟩ := h
  exact rgs_cells hf
end Go.Proofs.YtpcfhcdbibklcaaGreat
