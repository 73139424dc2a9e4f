import Derived.Test.YtfmkmhhghmdakaaGreatDoorRA
import Derived.Test.YtfmkmhhghmdakaaGreatDoorRF
import Derived.Test.YtfmkmhhghmdakaaGreatDoorRJ
namespace Go.Proofs.YtfmkmhhghmdakaaGreatDoor
open Go.RowKit
set_option linter.unusedVariables false
set_option linter.unusedSimpArgs false
set_option maxHeartbeats 64000000
set_option maxRecDepth 100000
def pieceE (l : List R4) (cuts : List Int) (i : Nat) : List R4 := levelP (rowP l (cuts.getD i 0 - 1)) (rowP l (cuts.getD i 0)) (cuts.getD i 0) ++ (if i + 1 < cuts.length then wallsP (rowP l (cuts.getD i 0)) (cuts.getD i 0) (cuts.getD (i + 1) 0) else [])
def edgesTo (l : List R4) (cuts : List Int) (j : Nat) : List R4 := (List.range j).flatMap (pieceE l cuts)
theorem edgesTo_succ (l : List R4) (cuts : List Int) (j : Nat) : edgesTo l cuts (j + 1) = edgesTo l cuts j ++ pieceE l cuts j := by
  unfold edgesTo
  rw [List.range_succ, List.flatMap_append]
  simp
theorem edgesC_to (l : List R4) : ∀ (cuts : List Int), edgesC l cuts = edgesTo l cuts cuts.length
  | [] => rfl
  | [y] => by simp [edgesTo, pieceE, edgesC]
  | y :: y' :: r => by
    have ih := edgesC_to l (y' :: r)
    show levelP (rowP l (y - 1)) (rowP l y) y ++ wallsP (rowP l y) y y' ++ edgesC l (y' :: r) = _
    rw [ih]
    unfold edgesTo
    rw [show (y :: y' :: r).length = (y' :: r).length + 1 from rfl, List.range_succ_eq_map, List.flatMap_cons, List.flatMap_map]
    have e0 : pieceE l (y :: y' :: r) 0 = levelP (rowP l (y - 1)) (rowP l y) y ++ wallsP (rowP l y) y y' := by simp [pieceE]
    have e1 : (fun i => pieceE l (y :: y' :: r) (i + 1)) = pieceE l (y' :: r) := funext fun i => by simp [pieceE]
    rw [e0]
    show _ = _ ++ (List.range (y' :: r).length).flatMap fun i => pieceE l (y :: y' :: r) (i + 1)
    rw [e1]
theorem level_len2 (v u : List (Sg Unit)) (y : Int) (hv : v.length ≤ 120) (hu : u.length ≤ 120) : (levelP v u y).length ≤ 460800 := by
  have h1 := choose_len2 notB (rr u) (rr v)
  have h2 := choose_len2 notB (rr v) (rr u)
  rw [rr_len, rr_len] at h1 h2
  have h3 : (2 * (u.length + v.length)) * (2 * (u.length + v.length)) ≤ 480 * 480 := Nat.mul_le_mul (by omega) (by omega)
  have h4 : (2 * (v.length + u.length)) * (2 * (v.length + u.length)) ≤ 480 * 480 := Nat.mul_le_mul (by omega) (by omega)
  rw [levelP_eq, List.length_append, lowE_len, highE_len]
  omega
theorem walls_len2 (v : List (Sg Unit)) (y y' : Int) : (wallsP v y y').length = 2 * v.length := by
  unfold wallsP
  induction v with
  | nil => rfl
  | cons s t ih => rw [List.flatMap_cons, List.length_append, ih, List.length_cons]; simp; omega
theorem walls_take (v : List (Sg Unit)) (y y' : Int) (k : Nat) (h : k < v.length) : wallsP (v.take (k + 1)) y y' = wallsP (v.take k) y y' ++ [⟨v[k].1, y', v[k].1, y⟩, ⟨v[k].2.1, y, v[k].2.1, y'⟩] := by
  unfold wallsP
  rw [List.take_succ_eq_append_getElem h, List.flatMap_append]
  simp
theorem piece_len (l : List R4) (hl : l.length ≤ 120) (cuts : List Int) (i : Nat) : (pieceE l cuts i).length ≤ 461040 := by
  unfold pieceE
  have h1 := level_len2 (rowP l (cuts.getD i 0 - 1)) (rowP l (cuts.getD i 0)) (cuts.getD i 0) (by have := rowP_len l (cuts.getD i 0 - 1); omega) (by have := rowP_len l (cuts.getD i 0); omega)
  have h2 := walls_len2 (rowP l (cuts.getD i 0)) (cuts.getD i 0) (cuts.getD (i + 1) 0)
  have h3 := rowP_len l (cuts.getD i 0)
  rw [List.length_append]
  split
  · omega
  · simp only [List.length_nil]; omega
theorem edgesTo_len (l : List R4) (hl : l.length ≤ 120) (cuts : List Int) : ∀ j, (edgesTo l cuts j).length ≤ j * 461040
  | 0 => by simp [edgesTo]
  | j + 1 => by
    have h1 := edgesTo_len l hl cuts j
    have h2 := piece_len l hl cuts j
    rw [edgesTo_succ, List.length_append]
    omega
theorem cutsP_len (l : List R4) : (cutsP l).length ≤ 2 * l.length := by rw [← yEdges_len]; exact (asc_all _).2.2
theorem SlS.grown {w w' : World} {A : Option Addr} {n c : Nat} {l : List (Sg Unit)} {row : Option Nat} (h : SlS w (.slice A n c) l) (hg : w.grownBy w' row) (hne : ∀ b off, A = some ⟨b, off, none⟩ → row ≠ some b) : SlS w' (.slice A n c) l := by
  obtain ⟨A', c', h1, h2, h3, h4⟩ := h.sl
  injection h1 with e1 e2 e3
  subst e1 e2 e3
  refine ⟨A, c, rfl, h2, h3, ?_⟩
  rcases h4 with h0 | ⟨b, off, hA, hb, hc⟩
  · exact .inl h0
  · refine .inr ⟨b, off, hA, Nat.lt_of_lt_of_le hb hg.size, fun j u hu => ?_⟩
    rw [← hc j u hu]
    exact World.cell?_of_block (a := ⟨b, off + j, none⟩) (hg.block b hb fun e => hne b off hA e.symm)
theorem SlS.of_own2 {w : World} {base : Nat} {v : Value} {l : List (Sg Unit)} (h : w.ownsRow base 256 2 v l.length (sCells l)) : ∃ A c, v = .slice A l.length c ∧ SlS w (.slice A l.length c) l ∧ ∀ b off, A = some ⟨b, off, none⟩ → base ≤ b ∧ b < w.heap.size := by
  have hS := SlS.of_own h
  obtain ⟨A, c, rfl, _⟩ := hS.sl
  refine ⟨A, c, rfl, hS, fun b off hA => ?_⟩
  subst hA
  exact h.lt b rfl
theorem ok_in {l : List R4} (h : l.all R4.ok = true) : InS 16384 l := fun q hq => (R4.ok_iff q).1 (List.all_eq_true.1 h q hq)
theorem row_lt (l : List R4) (hl : ∀ q ∈ l, q.l < q.r) (y : Int) : ∀ s ∈ rowP l y, s.1 < s.2.1 := (rowP_segs l y hl).pos
theorem SlS.at {w : World} {A : Option Addr} {n c : Nat} {l : List (Sg Unit)} (h : SlS w (.slice A n c) l) (i : Nat) (hi : i < l.length) : ∃ b off, A = some ⟨b, off, none⟩ ∧ b < w.heap.size ∧ w.cell? ⟨b, off + i * 2, none⟩ = some (.int .i64 l[i].1) ∧ w.cell? ⟨b, off + i * 2 + 1, none⟩ = some (.int .i64 l[i].2.1) := by
  obtain ⟨A', c', h1, h2, h3, h4⟩ := h.sl
  injection h1 with e1 e2 e3
  subst e1
  obtain ⟨b, off, hA, hb, hc⟩ := h4.resolve_left (by omega)
  obtain ⟨j1, j2⟩ := sCells_at l i hi
  exact ⟨b, off, hA, hb, hc _ _ j1, hc _ _ j2⟩
theorem edgesO_any (A : Option Addr) (n c : Nat) (l : List R4) (w : World) (hA : SlR w A n c l) (hok : l.all R4.ok = true) (hn : n ≤ 120) :
    Calls Tryz.prog 131 #[.agg #[.slice A n c]] w (EPost w (edgesP l)) := by
  obtain ⟨i0, hi, hz0, hz1, hz2⟩ := info_parts Tryz.infoEdge
  have hnl := hA.len
  have HA := Lib.hid hA
  have Hpos := Lib.hid (ok_pos hok)
  have HRl := Lib.hid (fun y => rowP_len l y)
  have HRp := Lib.hid (row_lt l Hpos.out)
  have HRow := Lib.hid (fun W y (hW : SlR W A n c l) => row_any A n c l y W hW (by omega) Hpos.out)
  have Hflat : Hid (cutsP [l].flatten = cutsP l) := Lib.hid (by simp)
  have hcl : (cutsP l).length ≤ 240 := by have := cutsP_len l; omega
  have HCb : Hid (∀ k ∈ cutsP l, 0 ≤ k ∧ k ≤ 16384) := Lib.hid (fun k hk => by
    obtain ⟨q, hq, h2⟩ := List.mem_flatMap.1 (((asc_all (yEdges l)).2.1 k).1 hk)
    have := ok_in hok q hq
    simp at h2
    omega)
  have Hres : Hid (edgesP l = edgesTo l (cutsP l) (cutsP l).length) := Lib.hid (edgesC_to l (cutsP l))
  have HTl : Hid (∀ j, (edgesTo l (cutsP l) j).length ≤ j * 461040) := Lib.hid (edgesTo_len l (by omega) (cutsP l))
  have HTs := Lib.hid (edgesTo_succ l (cutsP l))
  generalize edgesP l = res at *
  generalize hcu : cutsP l = cuts at *
  have HLl := Lib.hid (fun y => level_len2 (rowP l (y - 1)) (rowP l y) y (by have := HRl.out (y - 1); omega) (by have := HRl.out y; omega))
  have HLv := Lib.hid (fun (A B : Option Addr) (c d : Nat) y W (hA : SlS W (.slice A (rowP l (y - 1)).length c) (rowP l (y - 1))) (hB : SlS W (.slice B (rowP l y).length d) (rowP l y)) => level_any A B c d (rowP l (y - 1)) (rowP l y) y W hA hB (by have := HRl.out (y - 1); omega) (by have := HRl.out y; omega) (HRp.out _) (HRp.out _))
  have Hpe : Hid (∀ j, pieceE l cuts j = levelP (rowP l (cuts.getD j 0 - 1)) (rowP l (cuts.getD j 0)) (cuts.getD j 0) ++ (if j + 1 < cuts.length then wallsP (rowP l (cuts.getD j 0)) (cuts.getD j 0) (cuts.getD (j + 1) 0) else [])) := Lib.hid (fun j => rfl)
  clear hA hok hcu
  go_enter Tryz.func131, Tryz.ntmps131
  go_upto_region 2 with fail
  obtain ⟨w0, hw0⟩ : ∃ w0 : World, w0 = w.alloc (.cells #[.slice A n c] 33) := ⟨_, rfl⟩
  rw [← hw0]
  have hr0 : w0.heap[w.heap.size]? = some (.cells #[.slice A n c] 33 (0, 0)) := by rw [hw0]; exact heap_alloc_new w _
  have hs0 : w.heap.size < w0.heap.size := by rw [hw0]; simp
  have Hb0 : Hid (Below w.heap.size w w0) := Lib.hid (by rw [hw0]; exact gBel)
  have HA0 : Hid (SlR w0 A n c l) := Lib.hid (HA.out.below Hb0.out)
  have Hr0 := Lib.hid hr0
  have c0 := cell_of_row w0 w.heap.size 0 _ _ _ hr0
  clear hw0 hr0
  go_upto_region 4 with (first
    | (go_at_call 137
       refine (cuts_any (some ⟨w0.heap.size, 0, none⟩) 1 1 [l] _ rfl (by omega) (fun i hi => by
         obtain rfl : i = 0 := by simp at hi; omega
         exact ⟨w0.heap.size, 0, A, n, c, rfl, by simp, cell_of_row _ w0.heap.size 0 _ _ _ (heap_alloc_new w0 _), HA0.out.below gBel⟩) (by simp; omega)).mono ?_
       rintro e w1 ⟨v1, rfl, hown1, hb1⟩
       rw [Hflat.out] at hown1
       obtain ⟨C, cc, rfl, hC⟩ := SlI.of_own hown1
       have HC := Lib.hid hC
       have Hb1 : Hid (Below w0.heap.size w0 w1) := Lib.hid (show Below w0.heap.size w0 w1 from (by have hbq := hb1; exact gBelo))
       clear hown1 hb1 hC)
    | fail)
  have hs1 := Hb1.out.size
  have HA1 := Lib.hid (HA0.out.below Hb1.out)
  have Hc1 : Hid (w1.cell? ⟨w.heap.size, 0, none⟩ = some (.slice A n c)) := Lib.hid ((Hb1.out.cell (p := ⟨w.heap.size, 0, none⟩) hs0).trans c0)
  have Hbw1 : Hid (Below w.heap.size w w1) := Lib.hid (Hb0.out.trans (Hb1.out.mono (Nat.le_of_lt hs0)))
  have hsw1 : w.heap.size < w1.heap.size := Nat.lt_of_lt_of_le hs0 hs1
  clear c0 HA HA0 Hr0 Hb1 Hb0
  go_loopw [3, 5, 6, 8, 9, 10, 17] (fun o _ _ _ _ _ i wr => ∃ j : Nat, j ≤ cuts.length ∧ i = .int .i64 (j : Int) ∧ wr.ownsRow w1.heap.size 191 4 o (edgesTo l cuts j).length (rCells (edgesTo l cuts j)) ∧ Below w1.heap.size w1 wr) (fun _ _ _ _ _ _ i _ => cuts.length - (intOf i).toNat)
  case atStart => exact ⟨0, Nat.zero_le _, rfl, World.ownsRow_nil _ _ _ _, Below.refl _ _⟩
  case round =>
    obtain ⟨wo, rfl⟩ : ∃ wo : World, wo = wr := ⟨_, rfl⟩
    obtain ⟨uo, rfl⟩ : ∃ uo, uo = u3 := ⟨_, rfl⟩
    obtain ⟨j, hj, rfl, hown, hbo⟩ := hrel
    have hso := hbo.size
    have Hown := Lib.hid hown
    have Hbo := Lib.hid hbo
    by_cases hjn : j < cuts.length
    · have HCo := Lib.hid (HC.out.below hbo)
      obtain ⟨bC, oC, hCe, hbC, cy⟩ := HCo.out.at j hjn
      subst hCe
      have Hyd : Hid (cuts.getD j 0 = cuts[j]) := Lib.hid (by rw [List.getD_eq_getElem?_getD, List.getElem?_eq_getElem hjn]; rfl)
      have hyb := HCb.out cuts[j] (List.getElem_mem hjn)
      have Hstep := Lib.hid (HTs.out j)
      have Hpj := Lib.hid (Hpe.out j)
      rw [Hyd.out] at Hpj
      have Hlen := Lib.hid (HTl.out j)
      have hlj : (edgesTo l cuts j).length ≤ 110649600 := by have := HTl.out j; omega
      generalize hcj : cuts[j] = y at *
      have HRow1 := Lib.hid (fun W hW => HRow.out W (y - 1) hW)
      have HRow2 := Lib.hid (fun W hW => HRow.out W y hW)
      have HLvy := Lib.hid (fun A B c d W hA hB => HLv.out A B c d y W hA hB)
      have hll := HLl.out y
      have hr1 := HRl.out (y - 1)
      have hr2 := HRl.out y
      have Hrp2 := Lib.hid (HRp.out y)
      generalize levelP (rowP l (y - 1)) (rowP l y) y = lv at *
      generalize rowP l (y - 1) = rd at *
      generalize rowP l y = ru at *
      generalize edgesTo l cuts j = dn at *
      have hjn' : (j : Int) < (cuts.length : Int) := by omega
      have hj0 : (0 : Int) ≤ (j : Int) := by omega
      have hwj : IntKind.i64.wrap ((j : Int) + 1) = (j : Int) + 1 := IntWalk.i64_in _ (by omega)
      have hwy : IntKind.i64.wrap (y - 1) = y - 1 := IntWalk.i64_in _ (by omega)
      have cA : wo.cell? ⟨w.heap.size, 0, none⟩ = some (.slice A n c) := (hbo.cell (p := ⟨w.heap.size, 0, none⟩) hsw1).trans Hc1.out
      have HAo := Lib.hid (HA1.out.below hbo)
      have hswo : w.heap.size < wo.heap.size := Nat.lt_of_lt_of_le hsw1 hso
      clear hown hbo hcj HLv HLl HTl HTs Hpe
      go_upto_region 6 with fail
      go_region_held3 (fun w' => w'.cell? ⟨w.heap.size, 0, none⟩ = some (.slice A n c))
        (first | go_keep | exact (Hb5.out.cell (p := ⟨w.heap.size, 0, none⟩) hswo).trans cA | exact (Hb4.out.cell (p := ⟨w.heap.size, 0, none⟩) hswo).trans cA | exact (Hb3.out.cell (p := ⟨w.heap.size, 0, none⟩) hswo).trans cA | exact (Hb2.out.cell (p := ⟨w.heap.size, 0, none⟩) hswo).trans cA)
        (first
          | (go_at_call 217
             have hguard := HS3.out
             refine (HLvy.out R2 R3 c2 c3 _ HS2b.out HS3.out).mono ?_
             rintro e w4 ⟨v4, rfl, hown4, hb4⟩
             obtain ⟨R4', c4, rfl, hR4l, hR4c, hR4m⟩ := own_slice hown4
             have HL4 := Lib.hid hR4l
             have Hb4 : Hid (Below wo.heap.size wo w4) := Lib.hid (show Below wo.heap.size wo w4 from Hb3.out.trans (hb4.mono Hb3.out.size))
             have cg4 := (Hb4.out.cell (p := ⟨w.heap.size, 0, none⟩) hswo).trans cA
             clear hown4 hb4 hR4l)
          | (go_at_call 140
             have hguard := Hb2.out
             refine (HRow2.out _ (HAo.out.below (Hb2.out.trans (Below.mono gBel Hb2.out.size)))).mono ?_
             rintro e w3 ⟨v3, rfl, hown3, hb3⟩
             obtain ⟨R3, c3, rfl, hS3, _⟩ := SlS.of_own2 hown3
             have HS3 := Lib.hid hS3
             have HS2b := Lib.hid (HS2.out.below (Below.trans gBel (hb3.mono (Nat.le_refl _))))
             have Hb3 : Hid (Below wo.heap.size wo w3) := Lib.hid (show Below wo.heap.size wo w3 from Hb2.out.trans (hb3.mono Hb2.out.size))
             have cg3 := (Hb3.out.cell (p := ⟨w.heap.size, 0, none⟩) hswo).trans cA
             clear hown3 hb3 hS3)
          | (go_at_call 140
             refine (HRow1.out _ (HAo.out.below gBel)).mono ?_
             rintro e w2 ⟨v2, rfl, hown2, hb2⟩
             obtain ⟨R2, c2, rfl, hS2, _⟩ := SlS.of_own2 hown2
             have HS2 := Lib.hid hS2
             have Hb2 : Hid (Below wo.heap.size wo w2) := Lib.hid (show Below wo.heap.size wo w2 from (by have hbq := hb2; exact gBelo))
             have cg2 := (Hb2.out.cell (p := ⟨w.heap.size, 0, none⟩) hswo).trans cA
             clear hown2 hb2 hS2)
          | (refine step_append_any _ rfl (.tmp 22) (.tmp 33) 186 rfl w1.heap.size 191 i0 (.agg #[.int .i64 0, .int .i64 0, .int .i64 0, .int .i64 0]) 4 32 Tryz.underlying186 hi hz0 hz1 hz2 rfl (by omega) _ dn.length (rCells dn) rfl (ownsRow_below Hown.out Hb4.out) _ R4' lv.length c4 (rCells lv) rfl (HL4.out.reads (by rw [rCells_len])) (rCells_one lv) (by simp only [maxLen]; omega) (by omega) (Nat.le_trans hso Hb4.out.size) ?_
             intro v5 w5 hown5 hg5 hat5
             have Hown5 := Lib.hid hown5
             have Hb5 : Hid (Below w1.heap.size w1 w5) := Lib.hid (show Below w1.heap.size w1 w5 from Below.grown (Hbo.out.trans (Hb4.out.mono hso)) hg5 (Nat.le_trans hso Hb4.out.size) (own_base Hown.out))
             have cg5 := (Hb5.out.cell (p := ⟨w.heap.size, 0, none⟩) hsw1).trans Hc1.out
             clear hown5 hg5 hat5)
          | fail)
      by_cases hlast : j + 1 = cuts.length
      · have hq1 : (j : Int) + 1 = (cuts.length : Int) := by omega
        have hq2 : decide ((j : Int) + 1 = (cuts.length : Int)) = true := decide_eq_true hq1
        have Hown6 : Hid (w5.ownsRow w1.heap.size 191 4 v5 res.length (rCells res)) := Lib.hid (by
          rw [Hres.out, ← hlast, Hstep.out, Hpj.out, if_neg (by omega), List.append_nil, List.length_append, rCells_app]
          exact Hown5.out)
        clear HRow1 HRow2 HLvy
        all_goals go_wp2
        all_goals go_ret
        all_goals exact ⟨_, rfl, own_rebase Hown6.out (Nat.le_of_lt hsw1), Hbw1.out.trans (Hb5.out.mono (Nat.le_of_lt hsw1))⟩
      · have hq1 : ¬ (j : Int) + 1 = (cuts.length : Int) := by omega
        have hq2 : decide ((j : Int) + 1 = (cuts.length : Int)) = false := decide_eq_false hq1
        have hj1 : j + 1 < cuts.length := by omega
        have hs5 := Hb5.out.size
        have HC5 := Lib.hid (HC.out.below Hb5.out)
        have HA5 := Lib.hid (HA1.out.below Hb5.out)
        clear HRow1 HLvy
        go_upto_region 9 with (first
          | (go_at_call 140
             refine (HRow2.out _ HA5.out).mono ?_
             rintro e w6 ⟨v6, rfl, hown6, hb6⟩
             obtain ⟨R6, c6, rfl, hS6, hl6⟩ := SlS.of_own2 hown6
             have HS6 := Lib.hid hS6
             have Hl6 := Lib.hid hl6
             have Hb6 := Lib.hid hb6
             clear hown6 hb6 hS6 hl6)
          | fail)
        have hs6 := Hb6.out.size
        have Hown6 := Lib.hid (ownsRow_below Hown5.out Hb6.out)
        have Hlow5 := Lib.hid (fun k (hk : v5.ownBlock = some k) => (Hown5.out.lt k hk).2)
        have Hb16 : Hid (Below w1.heap.size w1 w6) := Lib.hid (Hb5.out.trans (Hb6.out.mono hs5))
        have hs16 := Hb16.out.size
        obtain ⟨y', hy'⟩ : ∃ y', cuts[j + 1] = y' := ⟨_, rfl⟩
        have Hyd' : Hid (cuts.getD (j + 1) 0 = y') := Lib.hid (by rw [List.getD_eq_getElem?_getD, List.getElem?_eq_getElem hj1, ← hy']; rfl)
        have hyb' : 0 ≤ y' ∧ y' ≤ 16384 := by rw [← hy']; exact HCb.out _ (List.getElem_mem hj1)
        obtain ⟨bC1, oC1, hCe1, hbC1, cy1⟩ := HC.out.at (j + 1) hj1
        injection hCe1 with hCe1
        injection hCe1 with e1 e2 _
        subst e1 e2
        rw [hy'] at cy1
        have Hcy1 := Lib.hid cy1
        have hbC2 := hbC1
        clear hy' cy1 hbC1 HS2 HS2b HS3 Hb2 Hb3 Hb4 HL4 Hown Hbo HCo cy hbC cA cg2 cg3 cg4 cg5 HAo HRow2 HC5 HA5
        go_loopw [3, 8, 9, 10, 45] (fun o _ _ _ i wr' => ∃ k : Nat, k ≤ ru.length ∧ i = .int .i64 (k : Int) ∧ wr'.ownsRow w1.heap.size 191 4 o (dn ++ lv ++ wallsP (ru.take k) y y').length (rCells (dn ++ lv ++ wallsP (ru.take k) y y')) ∧ Below w1.heap.size w1 wr' ∧ SlS wr' (.slice R6 ru.length c6) ru ∧ w6.heap.size ≤ wr'.heap.size ∧ Hid (∀ g, o.ownBlock = some g → g < w5.heap.size ∨ w6.heap.size ≤ g)) (fun _ _ _ _ i _ => ru.length - (intOf i).toNat)
        case atStart => exact ⟨0, Nat.zero_le _, rfl, by have := Hown6.out; simpa [wallsP, rCells_app] using this, Hb16.out, HS6.out, Nat.le_refl _, Lib.hid (fun g hg => .inl (Hlow5.out g hg))⟩
        case round =>
          obtain ⟨k, hk, rfl, hown, hbr, hS, hs6r, Hap⟩ := hrel
          have hsr := hbr.size
          have Hown := Lib.hid hown
          have Hbr := Lib.hid hbr
          have HS := Lib.hid hS
          by_cases hkn : k < ru.length
          · obtain ⟨b2, o2, hR6, hb2, c0, c1⟩ := hS.at k hkn
            subst hR6
            have Hwt := Lib.hid (walls_take ru y y' k hkn)
            have hb2' := Hl6.out b2 o2 rfl
            have hkn' : (k : Int) < (ru.length : Int) := by omega
            have hlen3 : (dn ++ lv ++ wallsP (ru.take k) y y').length ≤ 220000000 := by rw [List.length_append, List.length_append, walls_len2, List.length_take]; omega
            generalize ru[k] = s at *
            obtain ⟨bk, hbk⟩ : ∃ bk, dn ++ lv ++ wallsP (ru.take k) y y' = bk := ⟨_, rfl⟩
            rw [hbk] at Hown hlen3
            have Hbk := Lib.hid hbk
            clear hown hbr hS hbk
            go_upto_region 11 with fail
            obtain ⟨wx, hwx⟩ : ∃ wx : World, wx = wr.alloc (.cells #[.int .i64 s.1, .int .i64 s.2.1] 256) := ⟨_, rfl⟩
            rw [← hwx]
            have Hbx : Hid (Below w1.heap.size w1 wx) := Lib.hid (by rw [hwx]; exact Hbr.out.alloc hsr _)
            have hrx : wx.heap[wr.heap.size]? = some (.cells #[.int .i64 s.1, .int .i64 s.2.1] 256 (0, 0)) := by rw [hwx]; exact heap_alloc_new wr _
            have hsx : wx.heap.size = wr.heap.size + 1 := by rw [hwx]; simp
            have Hownx : Hid (wx.ownsRow w1.heap.size 191 4 u3 bk.length (rCells bk)) := Lib.hid (by rw [hwx]; exact Hown.out.alloc _)
            have HSx : Hid (SlS wx (.slice (some ⟨b2, o2, none⟩) ru.length c6) ru) := Lib.hid (by rw [hwx]; exact HS.out.below gBel)
            have cyx := (Hbx.out.cell (p := ⟨bC, oC + (j + 1), none⟩) hbC2).trans Hcy1.out
            have x0 := cell_of_row wx wr.heap.size 0 _ _ _ hrx
            have x1 := cell_of_row wx wr.heap.size 1 _ _ _ hrx
            have hj1' : (j : Int) + 1 < (cuts.length : Int) := by omega
            have hj01 : (0 : Int) ≤ (j : Int) + 1 := by omega
            clear hwx hrx Hown HS c0 c1
            go_quiet (fail)
            have Hbz : Hid (Below w1.heap.size w1 (wx.drewN nq)) := Lib.hid (below_drewN Hbx.out nq)
            have Hownz : Hid ((wx.drewN nq).ownsRow w1.heap.size 191 4 u3 bk.length (rCells bk)) := Hownx
            have HSz : Hid (SlS (wx.drewN nq) (.slice (some ⟨b2, o2, none⟩) ru.length c6) ru) := Lib.hid (HSx.out.below (below_drewN (Below.refl _ _) nq))
            have z0 : (wx.drewN nq).cell? ⟨wr.heap.size, 0, none⟩ = some (.int .i64 s.1) := x0
            have z1 : (wx.drewN nq).cell? ⟨wr.heap.size, 1, none⟩ = some (.int .i64 s.2.1) := x1
            have Hsz : Hid ((wx.drewN nq).heap.size = wr.heap.size + 1) := Lib.hid hsx
            have hszl : wr.heap.size < (wx.drewN nq).heap.size := by rw [Hsz.out]; omega
            clear hsx
            generalize wx.drewN nq = wz at *
            clear x0 x1 cyx Hownx HSx Hbx
            go_wp2_with (first
              | (at_builtin
                 refine wpList_append_any _ rfl (.tmp 55) (.tmp 74) _ rfl w1.heap.size 191 i0 _ 4 32 Tryz.underlying186 hi hz0 hz1 hz2 rfl (by omega) _ bk.length (rCells bk) rfl (Hownz.out.alloc _) _ _ 2 2 [.int .i64 s.1, .int .i64 y', .int .i64 s.1, .int .i64 y, .int .i64 s.2.1, .int .i64 y, .int .i64 s.2.1, .int .i64 y'] rfl ⟨rfl, fun _ => ⟨_, rfl, Nat.lt_succ_self _, fun j u hu => (by exact news_any _ _ _ j u hu)⟩⟩ (by simp [Value.oneCell']) (by simp only [maxLen]; omega) (by omega) (by simp; omega) ?_
                 intro v8 w8 hown8 hg8 hat8)
              | fail)
            go_roundw
            case rel =>
              have hsz8 := hg8.size
              have hsz := Hsz.out
              simp at hsz8
              refine ⟨k + 1, by omega, by go_num, ?_, ?_, ?_, by omega, Lib.hid (fun g hg => ?_)⟩
              · rw [Hwt.out, ← List.append_assoc, Hbk.out, List.length_append, rCells_app]
                exact hown8
              · exact Below.grown (Hbz.out.alloc (by omega) _) hg8 (by simp; omega) (own_base Hownz.out)
              · exact (HSz.out.below gBel).grown hg8 (fun b off e => by
                  injection e with e
                  injection e with e _ _
                  subst e
                  intro e2
                  rcases Hap.out _ e2 with h | h
                  · omega
                  · omega)
              · rcases hat8 with h | h
                · rw [h] at hg; exact Hap.out g hg
                · rw [h] at hg
                  simp at hg
                  exact .inr (by omega)
            case measure => simp [intOf]; omega
          · have Hown7 : Hid (wr.ownsRow w1.heap.size 191 4 u3 (edgesTo l cuts (j + 1)).length (rCells (edgesTo l cuts (j + 1)))) := Lib.hid (by
              have h := Hown.out
              rw [List.take_of_length_le (by omega)] at h
              rw [Hstep.out, Hpj.out, if_pos hj1, Hyd'.out, ← List.append_assoc]
              exact h)
            have hkn' : ¬ (k : Int) < (ru.length : Int) := by omega
            clear hown hbr hS Hown HS
            go_wp2
            go_roundw
            case rel => exact ⟨j + 1, by omega, by go_num, Hown7.out, Hbr.out⟩
            case measure => simp [intOf]; omega
    · have Hown3 : Hid (wo.ownsRow w1.heap.size 191 4 uo res.length (rCells res)) := Lib.hid (by have := Hown.out; rw [show j = cuts.length by omega, ← Hres.out] at this; exact this)
      have hjn' : ¬ (j : Int) < (cuts.length : Int) := by omega
      clear hown
      go_wp2
      go_ret
      exact ⟨_, rfl, own_rebase Hown3.out (Nat.le_of_lt hsw1), Hbw1.out.trans (hbo.mono (Nat.le_of_lt hsw1))⟩
end Go.Proofs.YtfmkmhhghmdakaaGreatDoor
