/- Contract: who is chosen (strata.Choose). -/
import Derived.Test.YtjmbdfoegnfpnaaK2
import Derived.Test.YtjmbdfoegnfpnaaJ6
namespace Go.Proofs.Ytjmbdfoegnfpnaa
open Go.RowKit Go.Maps
set_option linter.unusedVariables false
set_option linter.unusedSimpArgs false

/-- Picks as cells. -/
def pCells (l : List (Int × Int)) : List Value := l.flatMap fun x => [.int .i64 x.1, .int .i64 x.2]
theorem pCells_len (l : List (Int × Int)) : (pCells l).length = l.length * 2 := by
  induction l with
  | nil => rfl
  | cons o r ih => simp [pCells] at *; omega
theorem pCells_app (l m : List (Int × Int)) : pCells (l ++ m) = pCells l ++ pCells m := by simp [pCells]
theorem Try.infoPick : (Try.prog.info? 55).map (fun i => (i.zero, i.size, i.bytes)) = some (some (.agg #[.int .i64 0, .int .i64 0]), 2, 16) := by kernel_rfl
theorem Try.infoRow : (Try.prog.info? 22).map (fun i => (i.zero, i.size, i.bytes)) = some (some (.slice none 0 0), 1, 24) := by kernel_rfl
def ChoosePost (w : World) (x : List (Int × Int) × Int) (e : Ending) (w' : World) : Prop :=
  ∃ v, e = .returned (.tuple #[v, .int .i64 x.2]) ∧ w'.ownsRow w.heap.size 55 2 v x.1.length (pCells x.1) ∧ Below w.heap.size w w'
theorem farms_take {l : List (Un × UV)} {k : Nat} (hk : k < l.length) : farms (uns (l.take (k + 1))) = farms (uns (l.take k)) ++ [l[k].1.fm] := by
  rw [List.take_succ_eq_append_getElem hk]
  unfold farms uns
  rw [List.map_append, List.map_append]
  rfl
theorem farms_tlen {l : List (Un × UV)} {k : Nat} (hk : k ≤ l.length) : (farms (uns (l.take k))).length = k := by
  simp [farms, uns, List.length_take]; omega
theorem mapIs_step {w : World} {B n : Nat} {f g : Int → Option Int} {D : DataW Unit} {k v : Int} (hD : MapD D f) (h : w.ownsMap Try.prog 3 (plainElem Try.prog 3) B n (D.put (.int .i64 k) (.lit (.int .i64 v)))) (e : ∀ x, (if x = k then some v else f x) = g x) : MapIs w B n g :=
  ⟨_, h, (hD.put k v).congr e⟩

set_option maxHeartbeats 40000000 in
set_option maxRecDepth 100000 in
theorem chooseS_any (p : PlV) (q : Pl) (A : Option Addr) (c : Nat) (l : List (Un × UV)) (seed : Int) (w : World) (hA : PlAt w p q) (hL : SlU w A l.length c l) :
    Calls Try.prog 27 #[.agg #[.slice p.a1 q.ws.length p.c1, .slice p.a2 q.ls.length p.c2, .slice p.a3 q.ss.length p.c3, .int .i64 q.le, .int .i64 q.ra], .slice A l.length c, .int .u64 seed] w (ChoosePost w (chooseP q (uns l) seed)) := by
  obtain ⟨i0, hi, hz0, hz1, hz2⟩ := info_parts Try.infoIn
  have Hv : Hid (chooseP q (uns l) seed = if unitsP q (uns l) ≠ 0 then ([], unitsP q (uns l)) else (picks (mapF q (uns l) seed (randP q (uns l) seed) q.ss.length) (farms (uns l)), 0)) := Lib.hid rfl
  generalize chooseP q (uns l) seed = res at *
  have hmm := @run_makeMap Try.prog
  go_enter Try.func27, Try.ntmps27
  go_upto_region 1 with fail
  obtain ⟨wa, hwa⟩ : ∃ wa : World, wa = w.alloc (.cells #[.slice p.a1 q.ws.length p.c1, .slice p.a2 q.ls.length p.c2, .slice p.a3 q.ss.length p.c3, .int .i64 q.le, .int .i64 q.ra] 24) := ⟨_, rfl⟩; rw [← hwa]; have Hr : Hid (wa.heap[w.heap.size]? = some (.cells #[.slice p.a1 q.ws.length p.c1, .slice p.a2 q.ls.length p.c2, .slice p.a3 q.ss.length p.c3, .int .i64 q.le, .int .i64 q.ra] 24 (0, 0))) := Lib.hid (by rw [hwa]; exact heap_alloc_new w _); have Hba : Hid (Below w.heap.size w wa) := Lib.hid (by rw [hwa]; exact (by repeat' (first | with_reducible exact Below.refl _ _ | with_reducible refine below_drewN ?_ _ | with_reducible refine Below.drew ?_ | with_reducible refine Below.alloc ?_ ?_ _ | with_reducible refine Below.setCell ?_ ?_ _ | with_reducible refine Below.trans ?_ (Below.mono (by with_reducible assumption) ?_) | (simp; done) | (simp; omega) | omega))); have hl : w.heap.size < wa.heap.size := (by rw [hwa]; simp); clear hwa
  have HA := Lib.hid (hA.below Hba.out)
  have HL := Lib.hid (hL.below Hba.out)
  clear hA hL
  have p0 := cell_of_row wa w.heap.size 0 _ _ _ (((Below.refl wa.heap.size wa).block _ hl).trans Hr.out); have p1 := cell_of_row wa w.heap.size 1 _ _ _ (((Below.refl wa.heap.size wa).block _ hl).trans Hr.out); have p2 := cell_of_row wa w.heap.size 2 _ _ _ (((Below.refl wa.heap.size wa).block _ hl).trans Hr.out); have p3 := cell_of_row wa w.heap.size 3 _ _ _ (((Below.refl wa.heap.size wa).block _ hl).trans Hr.out); have p4 := cell_of_row wa w.heap.size 4 _ _ _ (((Below.refl wa.heap.size wa).block _ hl).trans Hr.out)
  have HU := Lib.hid (unitsS_any p q A c l wa HA.out HL.out)
  have Hok := Lib.hid (fun (h : unitsP q (uns l) = 0) => h)
  obtain ⟨uq, huq⟩ : ∃ uq, unitsP q (uns l) = uq := ⟨_, rfl⟩
  rw [huq] at HU Hv
  have Huq := Lib.hid huq
  clear huq Hok
  go_wp2_with fail
  refine HU.out.mono ?_
  rintro e w1 ⟨rfl, hb1⟩
  have Hb1 := Lib.hid hb1
  have hs1 := hb1.size
  clear p0 p1 p2 p3 p4 HU hb1
  by_cases hc : uq = 0
  · subst hc
    have HG := Lib.hid (units_ok Huq.out)
    have HR := Lib.hid (rand_eq Huq.out seed)
    obtain ⟨R, hR⟩ : ∃ R, randP q (uns l) seed = R := ⟨_, rfl⟩
    have Hv2 : Hid (res = (picks (mapF q (uns l) seed R q.ss.length) (farms (uns l)), 0)) := Lib.hid (by rw [Hv.out, if_neg (by simp), hR])
    have HRs : Hid (∀ x ∈ R, 1 ≤ x ∧ x ≤ 60) := Lib.hid (fun x hx => farms_pos Huq.out x (rand_sub Huq.out seed (by rw [hR]; exact hx)))
    have HRl : Hid (R.length ≤ l.length) := Lib.hid (by rw [← hR]; exact rand_len Huq.out seed)
    rw [hR] at HR
    clear hR Hv
    have h60 : l.length ≤ 60 := by have := HG.out.2.1; rwa [uns_len] at this
    obtain ⟨n, hn⟩ : ∃ n, l.length = n := ⟨_, rfl⟩
    have Hn := Lib.hid hn
    rw [uns_len, hn] at HR
    rw [hn] at HL h60 ⊢
    clear hn
    go_upto_region 4 with fail
    go_wp2_with fail
    go_loopw [9, 11, 44] (fun v _ i wr => ∃ k : Nat, k ≤ n ∧ i = .int .i64 (k : Int) ∧ wr.ownsRow wa.heap.size 3 1 v k ((farms (uns (l.take k))).map (.int .i64)) ∧ Below wa.heap.size wa wr) (fun _ _ i _ => n - (intOf i).toNat)
    case atStart => exact ⟨0, Nat.zero_le _, rfl, World.ownsRow_nil _ _ _ _, Hb1.out⟩
    case round =>
      obtain ⟨k, hk, rfl, hown, hbw⟩ := hrel
      have Hbw := Lib.hid hbw
      have hsw := hbw.size
      have Hown := Lib.hid hown
      clear hown hbw
      by_cases hkn : k < n
      · have hkn' : (k : Int) < (n : Int) := by omega
        have hkl : k < l.length := by have := Hn.out; omega
        obtain ⟨b, off, rfl, hb, g0, g1, -⟩ := (HL.out.below Hbw.out).at k hkl
        have Hft := Lib.hid (farms_take hkl)
        generalize l[k].1.fm = fm at *
        generalize l[k].2.a = ua at *
        generalize l[k].1.fs.length = un at *
        generalize l[k].2.c = uc at *
        generalize farms (uns (l.take k)) = Q at *
        clear hkl
        go_wp2_with (first
          | (at_builtin
             refine wpList_append_any _ rfl (.tmp 48) (.tmp 51) _ rfl wa.heap.size 3 i0 _ 1 8 Try.underlying22 hi hz0 hz1 hz2 rfl (by omega) _ k (Q.map (.int .i64)) rfl
               ((Hown.out.alloc _).alloc _) _ _ 1 1 [.int .i64 fm] rfl ⟨rfl, fun _ => ⟨_, rfl, Nat.lt_succ_self _, fun j u hu => (by exact World.news_of_block (heap_alloc2_new wr _ (.cells #[.int .i64 fm] 3)) j u hu)⟩⟩ (by simp [Value.oneCell']) (by simp only [maxLen]; omega) (by omega) (by simp; omega) ?_
             intro v5 w5 hown5 hg5 hat5)
          | fail)
        go_roundw
        case rel => exact ⟨k + 1, by omega, by go_num, by rw [Hft.out, List.map_append]; exact hown5, Below.grown ((Hbw.out.alloc hsw _).alloc (by simp; omega) _) hg5 (by simp; omega) (own_base Hown.out)⟩
        case measure => simp [intOf]; omega
      · obtain rfl : k = n := by omega
        have hkn' : ¬ (k : Int) < (k : Int) := by omega
        obtain ⟨w2, hw2⟩ : ∃ w2 : World, w2 = wr := ⟨_, rfl⟩
        subst hw2
        have Hfe : Hid (farms (uns (l.take k)) = farms (uns l)) := Lib.hid (by rw [List.take_of_length_le (by have := Hn.out; omega)])
        rw [Hfe.out] at Hown
        have Hfl : Hid ((farms (uns l)).length = k) := Lib.hid (by rw [farms_len, uns_len]; exact Hn.out)
        obtain ⟨F, fc, rfl, _, _, _⟩ := own_slice Hown.out
        have HF : Hid (Sl w2 F fc ((farms (uns l)).map (.int .i64))) := Lib.hid (Sl.of_own Hown.out (by simp [Hfl.out]))
        obtain ⟨ra, hra⟩ : ∃ ra, q.ra = ra := ⟨_, rfl⟩
        have P4 := cell_of_row w2 w.heap.size 4 _ _ _ ((Hbw.out.block _ hl).trans Hr.out)
        have hrb := ra_bd HG.out.1
        rw [hra] at P4 HR hrb
        clear hra
        have hm0 : 0 ≤ (k : Int) * ra := Int.mul_nonneg (by omega) hrb.1
        have hm1 : (k : Int) * ra ≤ 60 * 1000 := Int.mul_le_mul (by omega) hrb.2 hrb.1 (by omega)
        have hwm : IntKind.i64.wrap ((k : Int) * ra) = (k : Int) * ra := IntWalk.i64_in _ (by omega)
        have Hup := Lib.hid (fun W => upS_any ((k : Int) * ra) W hm0 (by omega))
        have HSa : Hid (Calls Try.prog 41 #[.int .u64 seed, .slice F k fc, .int .i64 (upM ((k : Int) * ra))] w2 (SamplePost w2 (R, 0))) := Lib.hid (by
          have := sample_any seed F fc (farms (uns l)) (upM ((k : Int) * ra)) w2 HF.out
          rw [Hfl.out, HR.out] at this
          exact this)
        generalize upM ((k : Int) * ra) = up at *
        go_wp2_with fail
        refine (Hup.out _).mono ?_
        rintro e w3 ⟨rfl, rfl⟩
        go_wp2_with fail
        refine HSa.out.mono ?_
        rintro e w3 ⟨vr, rfl, hown3, hb3⟩
        have Hb3 := Lib.hid (Hbw.out.trans (hb3.mono hsw))
        have HF3 := Lib.hid (HF.out.below hb3)
        obtain ⟨rn, hrn⟩ : ∃ rn, R.length = rn := ⟨_, rfl⟩
        have Hrn := Lib.hid hrn
        dsimp only at hown3
        rw [hrn] at hown3
        obtain ⟨G, gc, rfl, _, _, _⟩ := own_slice hown3
        have HG3 : Hid (Sl w3 G gc (R.map (.int .i64))) := Lib.hid (Sl.of_own hown3 (by simp [hrn]))
        have hrn60 : rn ≤ 60 := (by have h1 := HRl.out; have h2 := Hn.out; have h3 := Hrn.out; omega)
        have hs3 := Hb3.out.size
        clear P4 hm0 hm1 hwm Hup HSa hown3 hb3 hrn HF Hown
        go_upto_region 14 with fail
        go_wp2_with fail
        have hlt3 : w3.heap.size < (w3.alloc (.map #[] 0)).heap.size := by simp
        go_loopw [16, 72] (fun _ i wr => ∃ j : Nat, j ≤ rn ∧ i = .int .i64 (j : Int) ∧ MapIs wr w3.heap.size j (fun x => if x ∈ R.take j then some (-1) else none) ∧ Below w3.heap.size w3 wr ∧ w3.heap.size < wr.heap.size) (fun _ i _ => rn - (intOf i).toNat)
        case atStart => exact ⟨0, Nat.zero_le _, rfl, ⟨_, World.ownsMap_made _ _ _ _, MapD.empty.congr (fun x => by simp)⟩, (Below.refl _ _).alloc (Nat.le_refl _) _, hlt3⟩
        case round =>
          obtain ⟨j, hj, rfl, hM, hbw, hsz⟩ := hrel
          have HM := Lib.hid hM
          have Hb4 := Lib.hid hbw
          clear hM hbw
          by_cases hjn : j < rn
          · have hjn' : (j : Int) < (rn : Int) := by omega
            have hjl : j < R.length := by have := Hrn.out; omega
            obtain ⟨b, off, rfl, hb, cR⟩ := (HG3.out.below Hb4.out).at j hjl
            obtain ⟨D, hown, hD⟩ := HM.out
            have hx := HRs.out R[j] (List.getElem_mem _)
            have Hcg : Hid (∀ x, (if x = R[j] then some (-1 : Int) else if x ∈ R.take j then some (-1) else none) = if x ∈ R.take (j + 1) then some (-1) else none) := Lib.hid (fun x => by
              have := mem_take_succ hjl x
              by_cases h1 : x = R[j]
              · rw [if_pos h1, if_pos (this.2 (.inr h1))]
              · by_cases h2 : x ∈ R.take j
                · rw [if_neg h1, if_pos h2, if_pos (this.2 (.inl h2))]
                · rw [if_neg h1, if_neg h2, if_neg (fun h => (this.1 h).elim h2 h1)])
            generalize R[j] = y at *
            go_wp2_with (first
              | (at_mapUpdate
                 refine wpList_mapUpdate_own _ rfl _ _ _ 68 rfl 3 3 lawInt Try.underlying68 _ w3.heap.size j _ rfl hown (by unfold maxLen; omega) _ _ _ rfl rfl (keyOf_int_mk Try.underlying3 (WalkArith.wf_i64 (by omega))) _ [] (plainElem_int Try.underlying3 (WalkArith.wf_i64 (by omega))) ?_
                 intro w5 hown5 hg5)
              | fail)
            go_roundw
            case rel => exact ⟨j + 1, by omega, by go_num, mapIs_step hD hown5 Hcg.out, Below.grown Hb4.out hg5 (Nat.le_of_lt hsz) (by rintro _ ⟨⟩; exact Nat.le_refl _), Nat.lt_of_lt_of_le hsz hg5.size⟩
            case measure => simp [intOf]; omega
          · obtain rfl : j = rn := by omega
            have hjn' : ¬ (j : Int) < (j : Int) := by omega
            obtain ⟨w4, hw4⟩ : ∃ w4 : World, w4 = wr := ⟨_, rfl⟩
            subst hw4
            have HM4 : Hid (MapIs w4 w3.heap.size j (fun x => if x ∈ R then some (-1) else none)) := Lib.hid (by have := HM.out; rwa [List.take_of_length_le (by have := Hrn.out; omega)] at this)
            clear HM
            obtain ⟨m, hm⟩ : ∃ m, q.ss.length = m := ⟨_, rfl⟩
            have Hm := Lib.hid hm
            have hm6 : 1 ≤ m ∧ m ≤ 6 := by
              obtain ⟨-, -, h1, -, h2, -⟩ := (planB_iff q).1 (checkP_zero HG.out.1)
              omega
            have Hsl : Hid (∀ u, strOf q u < m) := Lib.hid (fun u => by
              obtain ⟨-, -, h1, -, h2, -⟩ := (planB_iff q).1 (checkP_zero HG.out.1)
              have := strOf_lt q u
              omega)
            rw [hm] at Hv2
            clear hm
            have Hb4w : Hid (Below wa.heap.size wa w4) := Lib.hid (Hb3.out.trans (Hb4.out.mono hs3))
            have hs4 := Hb4w.out.size
            have P2 := cell_of_row w4 w.heap.size 2 _ _ _ ((Hb4w.out.block _ hl).trans Hr.out)
            rw [Hm.out] at P2
            have hmk1 := fun W : World => run_make_row' (P := Try.prog) 43 22 (.slice none 0 0) 24 Try.underlying43 Try.infoRow rfl .i64 .i64 m (by omega) (by omega) W
            have hmk2 := fun W : World => run_make_row' (P := Try.prog) 22 3 (.int .i64 0) 8 Try.underlying22 Try.infoIn rfl .i64 .i64 m (by omega) (by omega) W
            go_upto_region 21 with fail
            clear P2 hmk1 hmk2
            obtain ⟨w6, hw6⟩ : ∃ w6 : World, w6 = (w4.alloc (.cells (madeCells #[.slice none 0 0] m) 22)).alloc (.cells (madeCells #[.int .i64 0] m) 3) := ⟨_, rfl⟩
            rw [← hw6]
            have HI0 : Hid (InAt w6 w4.heap.size (w4.heap.size + 2) (List.replicate m []) (List.replicate m (.slice none 0 0))) := Lib.hid (by
              rw [hw6]
              exact (InAt.made w4 (w4.heap.size + 2) m (by unfold maxLen; omega) (by omega)).below ((Below.refl _ _).alloc (Nat.le_refl _) _))
            have HC0 : Hid (w6.ownsRow (w4.heap.size + 1) 3 1 (.slice (some ⟨w4.heap.size + 1, 0, none⟩) m m) m ((List.replicate m (0 : Int)).map (.int .i64))) := Lib.hid (by
              rw [hw6]
              have := own_made (w4.alloc (.cells (madeCells #[.slice none 0 0] m) 22)) 3 (.int .i64 0) m (by unfold maxLen; omega)
              rw [World.size_alloc] at this
              rw [List.map_replicate]
              exact this)
            have Hb46 : Hid (Below w4.heap.size w4 w6) := Lib.hid (by rw [hw6]; exact (by repeat' (first | with_reducible exact Below.refl _ _ | with_reducible refine below_drewN ?_ _ | with_reducible refine Below.drew ?_ | with_reducible refine Below.alloc ?_ ?_ _ | with_reducible refine Below.setCell ?_ ?_ _ | with_reducible refine Below.trans ?_ (Below.mono (by with_reducible assumption) ?_) | (simp; done) | (simp; omega) | omega)))
            have hs6 : w4.heap.size + 2 ≤ w6.heap.size := by rw [hw6]; simp
            clear hw6
            have Hrl : Hid (∀ t, (rowsP q R m (uns (l.take t))).length = m) := Lib.hid (fun t => rowsP_len _ _ _ _)
            go_wp2_with fail
            go_loopw [20, 21, 22, 23, 88] (fun _ _ _ _ i wr => ∃ (t : Nat) (vs : List Value), t ≤ k ∧ i = .int .i64 (t : Int) ∧ InAt wr w4.heap.size (w4.heap.size + 2) (rowsP q R m (uns (l.take t))) vs ∧ wr.ownsRow (w4.heap.size + 1) 3 1 (.slice (some ⟨w4.heap.size + 1, 0, none⟩) m m) m ((lensP (rowsP q R m (uns (l.take t)))).map (.int .i64)) ∧ Below w4.heap.size w4 wr ∧ w4.heap.size + 2 ≤ wr.heap.size) (fun _ _ _ _ i _ => k - (intOf i).toNat)
            case atStart => exact ⟨0, _, Nat.zero_le _, rfl, by have := HI0.out; rwa [show rowsP q R m (uns (l.take 0)) = List.replicate m [] from rowsP_nil q R m], by have := HC0.out; rwa [show lensP (rowsP q R m (uns (l.take 0))) = List.replicate m 0 from lensP_nil q R m], Hb46.out, hs6⟩
            case round =>
              obtain ⟨t, vs, ht, rfl, hI, hC, hbr, hsr⟩ := hrel
              have HI := Lib.hid hI
              have HC := Lib.hid hC
              have Hbr := Lib.hid hbr
              have Hbw : Hid (Below wa.heap.size wa wr) := Lib.hid (Hb4w.out.trans (hbr.mono hs4))
              clear hI hC hbr
              by_cases htk : t < k
              · have htk' : (t : Int) < (k : Int) := by omega
                have htl : t < l.length := by have := Hn.out; omega
                obtain ⟨b, off, rfl, hb, g0, g1, hfit⟩ := (HL.out.below Hbw.out).at t htl
                have Hfit := Lib.hid hfit
                have Hst := Lib.hid (show uns (l.take (t + 1)) = uns (l.take t) ++ [l[t].1] by rw [List.take_succ_eq_append_getElem htl]; unfold uns; rw [List.map_append]; rfl)
                have Hu0 := Lib.hid (HG.out.2.2.1 l[t].1 (by unfold uns; exact List.mem_map_of_mem (List.getElem_mem _)))
                obtain ⟨xx, hxx⟩ : ∃ xx, l[t] = xx := ⟨_, rfl⟩
                rw [hxx] at g0 g1 Hfit Hst Hu0
                clear hxx hfit htl
                obtain ⟨u, v⟩ := xx
                dsimp only at g0 g1 Hfit Hst Hu0
                obtain ⟨⟨hf1, hf2⟩, hfb⟩ := Hu0.out
                have HFb := Lib.hid hfb
                clear hfb
                obtain ⟨D, hownD, hD⟩ := HM4.out
                have Hhas := (hD.2 u.fm).1
                dsimp only at Hhas
                have HownD : Hid ((wr.alloc (.cells #[.int .i64 u.fm, .slice v.a u.fs.length v.c] 27)).ownsMap Try.prog 3 (plainElem Try.prog 3) w3.heap.size j D) := Lib.hid ((hownD.kept (Below.grown_none Hbr.out) (by simp)).alloc _)
                clear hownD hD
                by_cases hin : u.fm ∈ R
                · rw [if_pos hin] at Hhas
                  dsimp only [Option.isSome] at Hhas
                  have Hrw := Lib.hid (rowsP_skip (q := q) (R := R) (m := m) (l := uns (l.take t)) hin)
                  rw [← Hst.out] at Hrw
                  go_wp2_with (first
                    | (at_lookup
                       refine wpList_lookup_own_ok_int _ rfl _ _ 68 rfl 3 3 .i64 lawInt Try.underlying68 Try.underlying3 (zeroInt _) w3.heap.size j D rfl HownD.out _ _ rfl (keyOf_int_mk Try.underlying3 (WalkArith.wf_i64 (by omega))) ?_
                       intro cv hat hwc
                       rw [Hhas])
                    | fail)
                  go_roundw
                  case rel => exact ⟨t + 1, vs, by omega, by go_num, by rw [Hrw.out]; exact HI.out.below ((Below.refl _ _).alloc (Nat.le_refl _) _), by rw [Hrw.out]; exact ownsRow_below HC.out ((Below.refl _ _).alloc (Nat.le_refl _) _), Hbr.out.alloc (by omega) _, by simp; omega⟩
                  case measure => simp [intOf]; omega
                · rw [if_neg hin] at Hhas
                  dsimp only [Option.isSome] at Hhas
                  have Hrw := Lib.hid (rowsP_add (q := q) (R := R) (m := m) (l := uns (l.take t)) hin (Hsl.out u))
                  rw [← Hst.out] at Hrw
                  go_wp2_with (first
                    | (at_lookup
                       refine wpList_lookup_own_ok_int _ rfl _ _ 68 rfl 3 3 .i64 lawInt Try.underlying68 Try.underlying3 (zeroInt _) w3.heap.size j D rfl HownD.out _ _ rfl (keyOf_int_mk Try.underlying3 (WalkArith.wf_i64 (by omega))) ?_
                       intro cv hat hwc
                       rw [Hhas])
                    | fail)
                  obtain ⟨w7, hw7⟩ : ∃ w7 : World, w7 = wr.alloc (.cells #[.int .i64 u.fm, .slice v.a u.fs.length v.c] 27) := ⟨_, rfl⟩
                  rw [← hw7]
                  have Hu7 : Hid (w7.heap[wr.heap.size]? = some (.cells #[.int .i64 u.fm, .slice v.a u.fs.length v.c] 27 (0, 0))) := Lib.hid (by rw [hw7]; exact heap_alloc_new wr _)
                  have Hbr7 : Hid (Below wr.heap.size wr w7) := Lib.hid (by rw [hw7]; exact (Below.refl _ _).alloc (Nat.le_refl _) _)
                  have hs7 : wr.heap.size < w7.heap.size := by rw [hw7]; simp
                  clear hw7 HownD
                  have hsw2 := Hbw.out.size
                  have Hbw7 : Hid (Below wa.heap.size wa w7) := Lib.hid (Hbw.out.trans (Hbr7.out.mono hsw2))
                  have hlw7 : w.heap.size < w7.heap.size := by omega
                  have p0 := cell_of_row w7 w.heap.size 0 _ _ _ ((Hbw7.out.block _ hl).trans Hr.out); have p1 := cell_of_row w7 w.heap.size 1 _ _ _ ((Hbw7.out.block _ hl).trans Hr.out); have p2 := cell_of_row w7 w.heap.size 2 _ _ _ ((Hbw7.out.block _ hl).trans Hr.out); have p3 := cell_of_row w7 w.heap.size 3 _ _ _ ((Hbw7.out.block _ hl).trans Hr.out); have p4 := cell_of_row w7 w.heap.size 4 _ _ _ ((Hbw7.out.block _ hl).trans Hr.out)
                  have r0 := cell_of_row w7 wr.heap.size 0 _ _ _ Hu7.out
                  have r1 := cell_of_row w7 wr.heap.size 1 _ _ _ Hu7.out
                  have HSc := Lib.hid (fun W (hW : Below w7.heap.size w7 W) => scoreS_any p q v u W (HA.out.below (Hbw7.out.trans (hW.mono Hbw7.out.size))) (Hfit.out.below (Hbr7.out.trans (hW.mono Hbr7.out.size))) HG.out.1 HFb.out)
                  obtain ⟨s, hs⟩ : ∃ s, strOf q u = s := ⟨_, rfl⟩
                  have HSt : Hid (∀ W, Below w7.heap.size w7 W → Calls Try.prog 18 #[.agg #[.slice p.a1 q.ws.length p.c1, .slice p.a2 q.ls.length p.c2, .slice p.a3 q.ss.length p.c3, .int .i64 q.le, .int .i64 q.ra], .int .i64 (dot q.ws u.fs)] W fun e w' => e = .returned (.int .i64 (s : Int)) ∧ Below W.heap.size W w') := Lib.hid (fun W hW => by
                    have := stratS_any p q (dot q.ws u.fs) W (HA.out.below (Hbw7.out.trans (hW.mono Hbw7.out.size)))
                    rw [stratP_ok HG.out.1] at this
                    rw [← hs]
                    exact this)
                  have hsm : s < m := by rw [← hs]; exact Hsl.out u
                  rw [hs] at Hrw
                  clear hs
                  generalize dot q.ws u.fs = dd at *
                  go_wp2_with fail
                  refine wp_region_below (W := w7) w7.heap.size (Nat.le_refl _) (by kernel_rfl) (by kernel_rfl) ?_
                  intro I _ F' hFc hFb hFs
                  repeat (go_big_quiet_step ((first
                    | (go_at_call 38; exact class_call hFb hFs (Nat.le_refl _) (HSc.out _ (hFb _)))
                    | (go_at_call 18; exact class_call hFb hFs (Nat.le_refl _) (HSt.out _ (hFb _))))))
                  refine wpQuiet_nil ?_
                  rintro _ ⟨iq, rfl⟩
                  obtain ⟨w8, hw8⟩ : ∃ w8 : World, w8 = F' iq := ⟨_, rfl⟩
                  have Hb78 : Hid (Below w7.heap.size w7 w8) := Lib.hid (by rw [hw8]; exact hFb iq)
                  rw [← hw8]
                  clear hw8 hFc hFb hFs HSc HSt p0 p1 p2 p3 p4 r0 r1
                  have hsr8 := Hb78.out.size
                  have Hbr8 : Hid (Below wr.heap.size wr w8) := Lib.hid (Hbr7.out.trans (Hb78.out.mono Hbr7.out.size))
                  have HI8 := Lib.hid (HI.out.below Hbr8.out)
                  have HC8 := Lib.hid (ownsRow_below HC.out Hbr8.out)
                  have hml := Hrl.out t
                  have hvl : vs.length = m := HI.out.len.trans hml
                  have hsv : s < vs.length := by omega
                  have hsr' : s < (rowsP q R m (uns (l.take t))).length := by omega
                  have Hrow := Lib.hid (rowsP_at q R m (uns (l.take t)) hsm)
                  have Hrlen : Hid ((restP q (uns (l.take t)) R s).length ≤ 60) := Lib.hid (by
                    have := rest_len (q := q) (l := uns (l.take t)) (R := R) (s := s)
                    rw [uns_len, List.length_take] at this
                    omega)
                  have Hin := Lib.hid (HI8.out.own s hsr' hsv)
                  rw [Hrow.out] at Hin
                  have Hnb : Hid (∀ g, vs[s].ownBlock = some g → w4.heap.size + 2 ≤ g ∧ g < wr.heap.size) := Lib.hid (fun g hg => ⟨own_base (HI.out.own s hsr' hsv) g hg, own_lt (HI.out.own s hsr' hsv) g hg⟩)
                  have Hpush : Hid (∀ (Wa W5 : World) (v5 : Value), Below w8.heap.size w8 Wa → Wa.grownBy W5 vs[s].ownBlock → W5.ownsRow (w4.heap.size + 2) 3 1 v5 ((restP q (uns (l.take t)) R s).length + 1) ((restP q (uns (l.take t)) R s).map (Value.int .i64) ++ [.int .i64 u.fm]) → (v5.ownBlock = vs[s].ownBlock ∨ v5.ownBlock = some Wa.heap.size) →
                      InAt (W5.setCell ⟨w4.heap.size, s, none⟩ v5) w4.heap.size (w4.heap.size + 2) ((rowsP q R m (uns (l.take t))).set s (restP q (uns (l.take t)) R s ++ [u.fm])) (vs.set s v5)) := Lib.hid (fun Wa W5 v5 h1 h2 h3 h4 => by
                    have := HI8.out.push hsr' hsv (x := u.fm) h1 h2 (by rw [Hrow.out]; exact h3) h4
                    rw [Hrow.out] at this
                    exact this)
                  have Hmid : Hid (∀ (Wa W5 : World), Below w8.heap.size w8 Wa → Wa.grownBy W5 vs[s].ownBlock → W5.ownsRow w4.heap.size 22 1 (.slice (some ⟨w4.heap.size, 0, none⟩) m m) m vs) := Lib.hid (fun Wa W5 h1 h2 => by
                    have := HI8.out.mid hsr' hsv h1 h2
                    rwa [hml] at this)
                  have Hce : Hid (vs[s]? = some vs[s]) := Lib.hid (by simp [hsv])
                  have Hcell : Hid (∀ W, Below w8.heap.size w8 W → W.cell? ⟨w4.heap.size, s, none⟩ = some vs[s] ∧ W.cell? ⟨wr.heap.size, 0, none⟩ = some (.int .i64 u.fm)) := Lib.hid (fun W hW => ⟨(HI8.out.below hW).cell hsv, cell_of_row W wr.heap.size 0 _ _ _ (((Hb78.out.block _ hs7).trans Hu7.out) ▸ hW.block _ (by omega))⟩)
                  have Hlen : Hid (((lensP (rowsP q R m (uns (l.take t)))).map (Value.int .i64))[s]? = some (.int .i64 ((restP q (uns (l.take t)) R s).length : Int))) := Lib.hid (by
                    simp [lensP, hsr']
                    rw [Hrow.out])
                  have Hls := Lib.hid (lensP_set (rowsP q R m (uns (l.take t))) s (restP q (uns (l.take t)) R s ++ [u.fm]))
                  generalize vs[s] = vv at *
                  generalize restP q (uns (l.take t)) R s = row at *
                  generalize u.fm = fm at *
                  go_upto_region 27 with fail
                  have hsm' : (s : Int) < (m : Int) := by omega
                  have hm0 : 0 < m := by omega
                  obtain ⟨c0, c1⟩ := Hcell.out w8.drew (Below.drew (Below.refl _ _))
                  refine wp_region_held_tail (S := fun w' => w'.cell? ⟨w4.heap.size, s, none⟩ = some vv ∧ w'.cell? ⟨wr.heap.size, 0, none⟩ = some (.int .i64 fm)) 10 (by kernel_rfl) (by kernel_rfl) (by kernel_rfl) ?_
                  have hHeld : (fun w' : World => w'.cell? ⟨w4.heap.size, s, none⟩ = some vv ∧ w'.cell? ⟨wr.heap.size, 0, none⟩ = some (.int .i64 fm)) w8.drew := ⟨c0, c1⟩
                  simp only [List.take_succ_cons, List.take_zero, List.replicate]
                  refine wpAnyH_take (i := 0) (v := ?vva0) rfl (by kernel_rfl) (by kernel_rfl) (by kernel_rfl) (fun _ _ _ h => h) (Or.inl ⟨by rfl, ?hya0⟩) hHeld ?resta0; (case hya0 => (intro w hSw; (try dsimp only at hSw); go_simp; all_goals (with_reducible rfl))); simp only [Act.put, List.setIfInBounds_toArray, List.set_cons_zero, List.set_cons_succ]
                  refine wpAnyH_take (i := 1) (v := ?vva1) rfl (by kernel_rfl) (by kernel_rfl) (by kernel_rfl) (fun _ _ _ h => h) (Or.inl ⟨by rfl, ?hya1⟩) hHeld ?resta1; (case hya1 => (intro w hSw; (try dsimp only at hSw); go_simp; all_goals (with_reducible rfl))); simp only [Act.put, List.setIfInBounds_toArray, List.set_cons_zero, List.set_cons_succ]
                  refine wpAnyH_take (i := 2) (v := ?vva2) rfl (by kernel_rfl) (by kernel_rfl) (by kernel_rfl) (fun _ _ _ h => h) (Or.inl ⟨by rfl, ?hya2⟩) hHeld ?resta2; (case hya2 => (intro w hSw; (try dsimp only at hSw); go_simp; all_goals (with_reducible rfl))); simp only [Act.put, List.setIfInBounds_toArray, List.set_cons_zero, List.set_cons_succ]
                  refine wpAnyH_take (i := 3) (v := ?vva3) rfl (by kernel_rfl) (by kernel_rfl) (by kernel_rfl) (fun _ _ _ h => h) (Or.inl ⟨by rfl, ?hya3⟩) hHeld ?resta3; (case hya3 => (intro w hSw; (try dsimp only at hSw); go_simp; all_goals (with_reducible rfl))); simp only [Act.put, List.setIfInBounds_toArray, List.set_cons_zero, List.set_cons_succ]
                  refine wpAnyH_take (i := 4) (v := ?vva4) rfl (by kernel_rfl) (by kernel_rfl) (by kernel_rfl) (fun _ _ _ h => h) (Or.inl ⟨by rfl, ?hya4⟩) hHeld ?resta4; (case hya4 => (intro w hSw; (try dsimp only at hSw); go_simp; all_goals (with_reducible rfl))); simp only [Act.put, List.setIfInBounds_toArray, List.set_cons_zero, List.set_cons_succ]
                  refine wpAnyH_take (i := 5) (v := ?vva5) rfl (by kernel_rfl) (by kernel_rfl) (by kernel_rfl) (fun _ _ _ h => h) (Or.inl ⟨by rfl, ?hya5⟩) hHeld ?resta5; (case hya5 => (intro w hSw; (try dsimp only at hSw); go_simp; all_goals (with_reducible rfl))); simp only [Act.put, List.setIfInBounds_toArray, List.set_cons_zero, List.set_cons_succ]
                  refine wpAnyH_take (i := 6) (v := ?vva6) rfl (by kernel_rfl) (by kernel_rfl) (by kernel_rfl) (fun _ _ _ h => h) (Or.inl ⟨by rfl, ?hya6⟩) hHeld ?resta6; (case hya6 => (intro w hSw; (try dsimp only at hSw); go_simp; all_goals (with_reducible rfl))); simp only [Act.put, List.setIfInBounds_toArray, List.set_cons_zero, List.set_cons_succ]
                  refine wpAnyH_take (i := 7) (v := ?vva7) rfl (by kernel_rfl) (by kernel_rfl) (by kernel_rfl) (fun _ _ _ h => h) (Or.inl ⟨by rfl, ?hya7⟩) hHeld ?resta7; (case hya7 => (intro w hSw; (try dsimp only at hSw); go_simp; all_goals (with_reducible rfl))); simp only [Act.put, List.setIfInBounds_toArray, List.set_cons_zero, List.set_cons_succ]
                  refine wpAnyH_ready (rs := [8]) (by kernel_rfl) (by simp) ?_; refine AllReadyH.cons rfl (fun K hK => ?_) AllReadyH.nil
                  go_simp
                  have Hb9 : Hid (Below w8.heap.size w8 (w8.drew.alloc (.cells #[.int .i64 fm] 3))) := Lib.hid (by exact (by repeat' (first | with_reducible exact Below.refl _ _ | with_reducible assumption | with_reducible refine below_drewN ?_ _ | with_reducible refine Below.drew ?_ | with_reducible refine Below.alloc ?_ ?_ _ | with_reducible refine Below.setCell ?_ ?_ _ | with_reducible refine Below.trans ?_ (Below.mono (by with_reducible assumption) ?_) | with_reducible refine below_only ?_ (by with_reducible assumption) ?_ ?_ | (simp; done) | (simp; omega) | omega)))
                  refine hK.out _ _ ⟨(Hcell.out _ Hb9.out).1, (Hcell.out _ Hb9.out).2⟩ (fun hHeld => ?_); clear hK K; (try simp only [Act.put, List.setIfInBounds_toArray, List.set_cons_zero, List.set_cons_succ])
                  refine wpAnyH_ready (rs := [9]) (by kernel_rfl) (by simp) ?_; refine AllReadyH.cons rfl (fun K hK => ?_) AllReadyH.nil
                  refine step_append_any _ rfl (.tmp 111) (.tmp 114) 22 rfl (w4.heap.size + 2) 3 i0 (.int .i64 0) 1 8 Try.underlying22 hi hz0 hz1 hz2 rfl (by omega) vv row.length (row.map (Value.int .i64)) rfl (ownsRow_below Hin.out Hb9.out) _ _ 1 1 [.int .i64 fm] rfl ⟨rfl, fun _ => ⟨_, rfl, Nat.lt_succ_self _, fun j u hu => (by exact news_any _ _ _ j u hu)⟩⟩ (by simp [Value.oneCell']) (by have := Hrlen.out; simp only [maxLen]; omega) (by have := Hrlen.out; omega) (by simp; omega) ?_
                  intro v5 w10 hown5 hg5 hat5
                  obtain ⟨A5, e5, rfl, _, _, _⟩ := own_slice hown5
                  have Hown5 := Lib.hid hown5
                  have Hg5 := Lib.hid hg5
                  have Hat5 := Lib.hid hat5
                  clear hown5 hg5 hat5
                  obtain ⟨hIlt, hIc, hIf⟩ := own_top (Hmid.out _ _ Hb9.out Hg5.out) hm0
                  have d0 := hIc s vv Hce.out
                  have f0 := hIf s
                  have hwr10 : w10.cell? ⟨wr.heap.size, 0, none⟩ = some (.int .i64 fm) := (World.cell?_of_block (a := ⟨wr.heap.size, 0, none⟩) (Hg5.out.block wr.heap.size (by simp; omega) (fun e => by have := (Hnb.out wr.heap.size e.symm).2; omega))).trans (Hcell.out _ Hb9.out).2
                  clear hIc hIf
                  refine hK.out _ _ ⟨d0, hwr10⟩ (fun hHeld => ?_); clear hK K; (try simp only [Act.put, List.setIfInBounds_toArray, List.set_cons_zero, List.set_cons_succ])
                  refine wpAnyH_done (by kernel_rfl) ?_ _
                  clear hHeld
                  show wpList _ _ _ _ _ _
                  simp only [List.drop_succ_cons, List.drop_zero]
                  have HP := Lib.hid (Hpush.out _ _ _ Hb9.out Hg5.out Hown5.out Hat5.out)
                  have HCn : Hid ((w10.setCell ⟨w4.heap.size, s, none⟩ (.slice A5 (row.length + 1) e5)).ownsRow (w4.heap.size + 1) 3 1 (.slice (some ⟨w4.heap.size + 1, 0, none⟩) m m) m ((lensP (rowsP q R m (uns (l.take t)))).map (.int .i64))) := Lib.hid (own_setTop (own_grown (ownsRow_below HC8.out Hb9.out) Hg5.out (fun g hg e => by
                    have h1 := (Hnb.out g e).1
                    have h2 : w4.heap.size + 1 = g := by simpa [Value.ownBlock] using hg
                    omega)) (by simp) _)
                  obtain ⟨hClt, hCc, hCf⟩ := own_top HCn.out hm0
                  have e0 := hCc s _ Hlen.out
                  have g0f := hCf s
                  clear hCc hCf hwr10
                  have hrl60 := Hrlen.out
                  go_wp2
                  go_roundw
                  case rel =>
                    have hb10 : Below w4.heap.size w4 w10 := Below.grown ((Hbr.out.trans (Hbr8.out.mono (by omega))).trans (Hb9.out.mono (by omega))) Hg5.out (by simp; omega) (fun g hg => by have := (Hnb.out g hg).1; omega)
                    have hv : ((((row ++ [fm]).length : Nat) : Int)) = (row.length : Int) + 1 := by simp
                    refine ⟨t + 1, _, by omega, by go_num, by rw [Hrw.out]; exact HP.out.setOut (by simp) (by simp) _, ?_, (hb10.setCell (by simp) _).setCell (by simp) _, ?_⟩
                    · rw [Hrw.out, Hls.out, hv]
                      exact own_setN HCn.out s _
                    · have h1 := Hg5.out.size
                      simp [World.setCell] at h1 ⊢
                      omega
                  case measure => simp [intOf]; omega
              · obtain rfl : t = k := by omega
                have htk' : ¬ (t : Int) < (t : Int) := by omega
                obtain ⟨w9, hw9⟩ : ∃ w9 : World, w9 = wr := ⟨_, rfl⟩
                subst hw9
                rw [List.take_of_length_le (by have := Hn.out; omega : l.length ≤ t)] at HI HC
                have hs9 := Hbw.out.size
                have hvm : vs.length = m := HI.out.len.trans (rowsP_len _ _ _ _)
                have Hcl : Hid ((lensP (rowsP q R m (uns l))).length = m) := Lib.hid (by rw [lensP_len, rowsP_len])
                have Hcb : Hid (∀ x ∈ lensP (rowsP q R m (uns l)), 0 ≤ x ∧ x ≤ 60) := Lib.hid (fun x hx => by
                  simp only [lensP, rowsP, List.mem_map, List.mem_range] at hx
                  obtain ⟨r, ⟨a, ha, rfl⟩, rfl⟩ := hx
                  have := rest_len (q := q) (l := uns l) (R := R) (s := a)
                  rw [uns_len, Hn.out] at this
                  unfold restP at this
                  omega)
                have Hsz : Hid (sizesP q (lensP (rowsP q R m (uns l))) = (sizesN q (lensP (rowsP q R m (uns l))) m, 0)) := Lib.hid (by
                  unfold sizesP
                  rw [if_neg (by rw [HG.out.1]; simp), if_neg, Hcl.out]
                  rw [Hcl.out, Hm.out]
                  rintro (h | h)
                  · exact h rfl
                  · rw [List.any_eq_true] at h
                    obtain ⟨x, hx, ho⟩ := h
                    have := Hcb.out x hx
                    simp [outP] at ho
                    omega)
                have HSz : Hid (Calls Try.prog 24 #[.agg #[.slice p.a1 q.ws.length p.c1, .slice p.a2 q.ls.length p.c2, .slice p.a3 q.ss.length p.c3, .int .i64 q.le, .int .i64 q.ra], .slice (some ⟨w4.heap.size + 1, 0, none⟩) m m] w9 (SamplePost w9 (sizesN q (lensP (rowsP q R m (uns l))) m, 0))) := Lib.hid (by
                  have := sizesS_any p q (some ⟨w4.heap.size + 1, 0, none⟩) m (lensP (rowsP q R m (uns l))) w9 (HA.out.below Hbw.out) (Sl.of_own HC.out (by rw [List.length_map]; exact Hcl.out))
                  rw [Hcl.out, Hsz.out] at this
                  exact this)
                have Hzat : Hid (∀ d, d < m → (sizesN q (lensP (rowsP q R m (uns l))) m)[d]? = some (sizeP q d ((restP q (uns l) R d).length : Int))) := Lib.hid (fun d hd => by
                  simp [sizesN, hd, List.getD_eq_getElem?_getD, lensP, rowsP, restP])
                have p0 := cell_of_row w9 w.heap.size 0 _ _ _ ((Hbw.out.block _ hl).trans Hr.out); have p1 := cell_of_row w9 w.heap.size 1 _ _ _ ((Hbw.out.block _ hl).trans Hr.out); have p2 := cell_of_row w9 w.heap.size 2 _ _ _ ((Hbw.out.block _ hl).trans Hr.out); have p3 := cell_of_row w9 w.heap.size 3 _ _ _ ((Hbw.out.block _ hl).trans Hr.out); have p4 := cell_of_row w9 w.heap.size 4 _ _ _ ((Hbw.out.block _ hl).trans Hr.out)
                go_upto_region 30 with fail
                go_wp2_with fail
                refine HSz.out.mono ?_
                rintro e w10 ⟨vz, rfl, hownz, hb10⟩
                have Hb10 := Lib.hid hb10
                have HIx := Lib.hid (HI.out.below hb10)
                clear p0 p1 p2 p3 p4 HSz HC
                dsimp only at hownz
                rw [sizesN_len] at hownz
                obtain ⟨zg, zc, rfl, hzb, hzl, _, _, _, _⟩ := own_at hownz (by omega)
                have Hownz := Lib.hid hownz
                have hs10 := hb10.size
                have HM10 := Lib.hid (HM4.out.below (show Below w4.heap.size w4 w10 from Hbr.out.trans (hb10.mono (by omega))))
                have Hb310 : Hid (Below w3.heap.size w3 w10) := Lib.hid ((Hb4.out.trans (Hbr.out.mono (Nat.le_of_lt hsz))).trans (hb10.mono (by omega)))
                clear hownz hb10
                go_upto_region 33 with fail
                go_wp2_with fail
                go_loopw [25, 26, 27, 28, 30, 135, 160] (fun _ _ _ _ _ i _ wr => ∃ (d nd : Nat), d ≤ m ∧ nd ≤ j + 60 * d ∧ i = .int .i64 (d : Int) ∧ MapIs wr w3.heap.size nd (mapF q (uns l) seed R d) ∧ w10.grownBy wr (some w3.heap.size)) (fun _ _ _ _ _ i _ _ => m - (intOf i).toNat)
                case atStart => exact ⟨0, j, Nat.zero_le _, by omega, rfl, HM10.out, World.grownBy.refl _ _⟩
                case round =>
                  obtain ⟨d, nd, hd, hnd, rfl, hM, hgr⟩ := hrel
                  have HMd := Lib.hid hM
                  have Hgr := Lib.hid hgr
                  have hsr2 := hgr.size
                  clear hM hgr
                  by_cases hdm : d < m
                  · have hdm' : (d : Int) < (m : Int) := by omega
                    have HId := Lib.hid (HIx.out.grown Hgr.out (by omega))
                    have hdv : d < vs.length := by omega
                    have hdr : d < (rowsP q R m (uns l)).length := by rw [rowsP_len]; exact hdm
                    have cI := HId.out.cell hdv
                    have hwd := HId.out.own d hdr hdv
                    rw [rowsP_at q R m (uns l) hdm] at hwd
                    obtain ⟨An, ac, hve, _, _, _⟩ := own_slice hwd
                    rw [hve] at cI hwd
                    have HSn : Hid (Sl wr An ac ((restP q (uns l) R d).map (.int .i64))) := Lib.hid (Sl.of_own hwd (by simp))
                    have hownz := ownsRow_only Hownz.out Hgr.out (by omega)
                    obtain ⟨hzlt, hzc, -⟩ := own_top hownz (by omega)
                    have cz := hzc d (.int .i64 (sizeP q d ((restP q (uns l) R d).length : Int))) (by rw [List.getElem?_map, Hzat.out d hdm]; rfl)
                    have Hdq := Lib.hid (draw_eq Huq.out seed R (s := d) (by rw [Hm.out]; exact hdm))
                    have HMF : Hid (mapF q (uns l) seed R (d + 1) = fun x => if x ∈ drawP q (uns l) seed R d then some (d : Int) else mapF q (uns l) seed R d x) := Lib.hid rfl
                    have Hdl : Hid (∀ x ∈ drawP q (uns l) seed R d, 1 ≤ x ∧ x ≤ 60) := Lib.hid (fun x hx => farms_pos Huq.out x (rest_sub.subset (draw_sub Huq.out seed R (by rw [Hm.out]; exact hdm) hx)))
                    have Hrl60 : Hid ((restP q (uns l) R d).length ≤ 60) := Lib.hid (by
                      have := rest_len (q := q) (l := uns l) (R := R) (s := d)
                      rw [uns_len, Hn.out] at this
                      omega)
                    clear hwd hve hzc hownz
                    generalize sizeP q d ((restP q (uns l) R d).length : Int) = sz at *
                    generalize restP q (uns l) R d = row at *
                    have hdl60 := draw_len Huq.out seed R (s := d) (by rw [Hm.out]; exact hdm)
                    generalize drawP q (uns l) seed R d = dr at *
                    have HSp : Hid (∀ W, Below wr.heap.size wr W → Calls Try.prog 41 #[.int .u64 (mixI (IntKind.u64.wrap (IntKind.u64.wrap (seed + 1) + (d : Int)))), .slice An row.length ac, .int .i64 sz] W (SamplePost W (dr, 0))) := Lib.hid (fun W hW => by
                      have := sample_any (seedK seed d) An ac row sz W (HSn.out.below hW)
                      rw [Hdq.out] at this
                      exact this)
                    have hwd2 : IntKind.u64.wrap (d : Int) = (d : Int) := by unfold IntKind.wrap; simp [IntKind.bits, IntKind.signed]; omega
                    go_upto_region 36 with fail
                    go_region_held3 (fun w' => w'.cell? ⟨zg, d, none⟩ = some (.int .i64 sz))
                      (first | go_keep)
                      (first
                        | (go_at_call 42
                           refine (mix_any _ _).mono ?_
                           rintro e w' ⟨rfl, rfl⟩)
                        | (go_at_call 41
                           refine (HSp.out _ (by repeat' (first | with_reducible exact Below.refl _ _ | with_reducible assumption | with_reducible refine below_drewN ?_ _ | with_reducible refine Below.drew ?_ | with_reducible refine Below.alloc ?_ ?_ _ | with_reducible refine Below.setCell ?_ ?_ _ | with_reducible refine Below.trans ?_ (Below.mono (by with_reducible assumption) ?_) | with_reducible refine below_only ?_ (by with_reducible assumption) ?_ ?_ | (simp; done) | (simp; omega) | omega))).mono ?_
                           rintro e w11 ⟨vd, rfl, hownd, hbd⟩
                           have Hb11 : Hid (Below wr.heap.size wr w11) := Lib.hid (show Below wr.heap.size wr w11 from (by have hq := hbd; exact (by repeat' (first | with_reducible exact Below.refl _ _ | with_reducible assumption | with_reducible refine below_drewN ?_ _ | with_reducible refine Below.drew ?_ | with_reducible refine Below.alloc ?_ ?_ _ | with_reducible refine Below.setCell ?_ ?_ _ | with_reducible refine Below.trans ?_ (Below.mono (by with_reducible assumption) ?_) | with_reducible refine below_only ?_ (by with_reducible assumption) ?_ ?_ | (simp; done) | (simp; omega) | omega))))
                           have cz11 := (Hb11.out.cell (p := ⟨zg, d, none⟩) hzlt).trans cz
                           dsimp only at hownd
                           obtain ⟨Dn, dc, rfl, _, _, _⟩ := own_slice hownd
                           have Hownd := Lib.hid hownd
                           clear hbd hownd)
                        | fail)
                    clear HSp cz cz11 cI hwd2 HSn
                    have hs11 := Hb11.out.size
                    have hsw11 : wr.heap.size ≤ wr.drew.heap.size := Nat.le_refl _
                    have HM11 := Lib.hid (HMd.out.below Hb11.out)
                    have Hg11 : Hid (w10.grownBy w11 (some w3.heap.size)) := Lib.hid (only_below Hgr.out Hb11.out hsr2)
                    obtain ⟨dn, hdn⟩ : ∃ dn, dr.length = dn := ⟨_, rfl⟩
                    have Hdn := Lib.hid hdn
                    rw [hdn] at Hownd hdl60 ⊢
                    clear hdn
                    go_upto_region 39 with fail
                    go_wp2_with fail
                    go_loopw [30, 160] (fun _ i wq => ∃ t2 : Nat, t2 ≤ dn ∧ i = .int .i64 (t2 : Int) ∧ MapIs wq w3.heap.size (nd + t2) (fun x => if x ∈ dr.take t2 then some (d : Int) else mapF q (uns l) seed R d x) ∧ w11.grownBy wq (some w3.heap.size)) (fun _ i _ => dn - (intOf i).toNat)
                    case atStart => exact ⟨0, Nat.zero_le _, rfl, by have := HM11.out; simpa using this, World.grownBy.refl _ _⟩
                    case round =>
                      obtain ⟨t2, ht2, rfl, hMq, hgq⟩ := hrel
                      have HMq := Lib.hid hMq
                      have Hgq := Lib.hid hgq
                      clear hMq hgq
                      by_cases htd : t2 < dn
                      · have htd' : (t2 : Int) < (dn : Int) := by omega
                        have htl : t2 < dr.length := by have := Hdn.out; omega
                        obtain ⟨g, cap, he, _, _, _, _, hcq, _⟩ := own_at (ownsRow_only Hownd.out Hgq.out (by omega)) (by omega)
                        injection he with he1 he2 he3
                        subst he1
                        have cq := hcq t2 (.int .i64 dr[t2]) (by simp [htl])
                        obtain ⟨D, hown, hD⟩ := HMq.out
                        have hx := Hdl.out dr[t2] (List.getElem_mem _)
                        have Hcg : Hid (∀ x, (if x = dr[t2] then some (d : Int) else if x ∈ dr.take t2 then some (d : Int) else mapF q (uns l) seed R d x) = if x ∈ dr.take (t2 + 1) then some (d : Int) else mapF q (uns l) seed R d x) := Lib.hid (fun x => by
                          have := mem_take_succ htl x
                          by_cases h1 : x = dr[t2]
                          · rw [if_pos h1, if_pos (this.2 (.inr h1))]
                          · by_cases h2 : x ∈ dr.take t2
                            · rw [if_neg h1, if_pos h2, if_pos (this.2 (.inl h2))]
                            · rw [if_neg h1, if_neg h2, if_neg (fun h => (this.1 h).elim h2 h1)])
                        generalize dr[t2] = y at *
                        clear hcq htl
                        go_wp2_with (first
                          | (at_mapUpdate
                             refine wpList_mapUpdate_own _ rfl _ _ _ 68 rfl 3 3 lawInt Try.underlying68 _ w3.heap.size (nd + t2) _ rfl hown (by unfold maxLen; omega) _ _ _ rfl rfl (keyOf_int_mk Try.underlying3 (WalkArith.wf_i64 (by omega))) _ [] (plainElem_int Try.underlying3 (WalkArith.wf_i64 (by omega))) ?_
                             intro w5 hown5 hg5)
                          | fail)
                        go_roundw
                        case rel => exact ⟨t2 + 1, by omega, by go_num, mapIs_step hD hown5 Hcg.out, only_trans Hgq.out hg5⟩
                        case measure => simp [intOf]; omega
                      · obtain rfl : t2 = dn := by omega
                        have htd' : ¬ (t2 : Int) < (t2 : Int) := by omega
                        go_wp2
                        go_roundw
                        case rel => exact ⟨d + 1, nd + t2, by omega, by omega, by go_num, by rw [HMF.out]; have := HMq.out; rwa [List.take_of_length_le (by have := Hdn.out; omega)] at this, only_trans Hg11.out Hgq.out⟩
                        case measure => simp [intOf]; omega
                  · obtain rfl : d = m := by omega
                    have hdm' : ¬ (d : Int) < (d : Int) := by omega
                    obtain ⟨w12, hw12⟩ : ∃ w12 : World, w12 = wr := ⟨_, rfl⟩
                    subst hw12
                    have Hb312 : Hid (Below w3.heap.size w3 w12) := Lib.hid (Hb310.out.grown Hgr.out (by have := Hb310.out.size; omega) (by rintro _ ⟨⟩; exact Nat.le_refl _))
                    have HF12 := Lib.hid (HF3.out.below Hb312.out)
                    obtain ⟨i1, hj, hj0, hj1, hj2⟩ := info_parts Try.infoPick
                    obtain ⟨f, hf⟩ : ∃ f, mapF q (uns l) seed R d = f := ⟨_, rfl⟩
                    rw [hf] at HMd
                    have Hres : Hid (res = (picks f (farms (uns l)), 0)) := Lib.hid (by rw [Hv2.out, hf])
                    have Hfp := Lib.hid (farms_pos Huq.out)
                    clear hf Hv2 hmm
                    obtain ⟨D, hownD, hD⟩ := HMd.out
                    have HownD := Lib.hid hownD
                    have HD := Lib.hid hD
                    clear hownD hD
                    go_upto_region 46 with fail
                    go_wp2_with fail
                    go_loopw [31, 33, 34, 35, 171] (fun v _ _ _ i wq => ∃ t3 : Nat, t3 ≤ t ∧ i = .int .i64 (t3 : Int) ∧ wq.ownsRow w12.heap.size 55 2 v (picks f ((farms (uns l)).take t3)).length (pCells (picks f ((farms (uns l)).take t3))) ∧ Below w12.heap.size w12 wq) (fun _ _ _ _ i _ => t - (intOf i).toNat)
                    case atStart => exact ⟨0, Nat.zero_le _, rfl, World.ownsRow_nil _ _ _ _, Below.refl _ _⟩
                    case round =>
                      obtain ⟨t3, ht3, rfl, hownp, hbq⟩ := hrel
                      have Hownp := Lib.hid hownp
                      have Hbq := Lib.hid hbq
                      have hsq := hbq.size
                      clear hownp hbq
                      by_cases htt : t3 < t
                      · have htt' : (t3 : Int) < (t : Int) := by omega
                        have htl : t3 < (farms (uns l)).length := by have := Hfl.out; omega
                        obtain ⟨b, off, hFe, hb, cf⟩ := (HF12.out.below Hbq.out).at t3 htl
                        have hx := Hfp.out (farms (uns l))[t3] (List.getElem_mem _)
                        have Hsn : Hid (picks f ((farms (uns l)).take (t3 + 1)) = picks f ((farms (uns l)).take t3) ++ (match f (farms (uns l))[t3] with | some k => [((farms (uns l))[t3], k)] | none => [])) := Lib.hid (by rw [List.take_succ_eq_append_getElem htl]; exact picks_snoc _ _ _)
                        have Hpl : Hid ((picks f ((farms (uns l)).take t3)).length ≤ 60) := Lib.hid (by
                          have := picks_len f ((farms (uns l)).take t3)
                          rw [List.length_take] at this
                          omega)
                        have HDx := Lib.hid (HD.out.2 (farms (uns l))[t3])
                        have HownQ := Lib.hid (HownD.out.kept (Below.grown_none Hbq.out) (by simp))
                        generalize (farms (uns l))[t3] = y at *
                        generalize picks f ((farms (uns l)).take t3) = P at *
                        have Hhas := HDx.out.1
                        have Hpl0 := Hpl.out
                        subst hFe
                        cases hfy : f y with
                        | none =>
                          rw [hfy] at Hhas Hsn
                          dsimp only [Option.isSome] at Hhas
                          have Hsn2 : Hid (picks f ((farms (uns l)).take (t3 + 1)) = P) := Lib.hid (by rw [Hsn.out]; simp)
                          go_wp2_with (first
                            | (at_lookup
                               refine wpList_lookup_own_ok_int _ rfl _ _ 68 rfl 3 3 .i64 lawInt Try.underlying68 Try.underlying3 (zeroInt _) w3.heap.size nd D rfl HownQ.out _ _ rfl (keyOf_int_mk Try.underlying3 (WalkArith.wf_i64 (by omega))) ?_
                               intro cv hat hwc
                               rw [Hhas])
                            | fail)
                          go_roundw
                          case rel => exact ⟨t3 + 1, by omega, by go_num, by rw [Hsn2.out]; exact Hownp.out, Hbq.out⟩
                          case measure => simp [intOf]; omega
                        | some z =>
                          rw [hfy] at Hhas Hsn
                          dsimp only [Option.isSome] at Hhas
                          have Hat := Lib.hid (HDx.out.2 z hfy)
                          go_wp2_with (first
                            | (at_lookup
                               refine wpList_lookup_own_ok_int _ rfl _ _ 68 rfl 3 3 .i64 lawInt Try.underlying68 Try.underlying3 (zeroInt _) w3.heap.size nd D rfl HownQ.out _ _ rfl (keyOf_int_mk Try.underlying3 (WalkArith.wf_i64 (by omega))) ?_
                               intro cv hat hwc
                               rw [Hhas]
                               obtain rfl : cv = z := by
                                 have := hat.symm.trans Hat.out
                                 injection this with h
                                 injection h)
                            | (at_builtin
                               refine wpList_append_any _ rfl (.tmp 182) (.tmp 186) _ rfl w12.heap.size 55 i1 _ 2 16 Try.underlying49 hj hj0 hj1 hj2 rfl (by omega) _ P.length (pCells P) rfl
                                 (Hownp.out.alloc _) _ _ 1 1 [.int .i64 y, .int .i64 cv] rfl ⟨rfl, fun _ => ⟨_, rfl, Nat.lt_succ_self _, fun j u hu => (by exact news_any _ _ _ j u hu)⟩⟩ (by simp [Value.oneCell']) (by simp only [maxLen]; omega) (by omega) (by simp; omega) ?_
                               intro v5 w5 hown5 hg5 hat5)
                            | fail)
                          go_roundw
                          case rel => exact ⟨t3 + 1, by omega, by go_num, by rw [Hsn.out, pCells_app, List.length_append]; exact hown5, Below.grown (Hbq.out.alloc hsq _) hg5 (by simp; omega) (own_base Hownp.out)⟩
                          case measure => simp [intOf]; omega
                      · obtain rfl : t3 = t := by omega
                        have htt' : ¬ (t3 : Int) < (t3 : Int) := by omega
                        rw [List.take_of_length_le (by have := Hfl.out; omega)] at Hownp
                        have hR := Hres.out
                        subst hR
                        have Hall : Hid (Below wa.heap.size wa w12) := Lib.hid (Hb3.out.trans (Hb312.out.mono hs3))
                        have hsa12 := Hall.out.size
                        go_wp2
                        refine bodyPost_ret (v := .tuple #[u31, .int .i64 0]) (by simp [results, Try.results27, go_sem, *]) rfl ?_
                        have hww : w.heap.size ≤ w12.heap.size := by omega
                        have hwa : w.heap.size ≤ wa.heap.size := by omega
                        exact ⟨_, rfl, own_rebase Hownp.out hww, (Hba.out.trans (Hall.out.mono hwa)).trans (Hbq.out.mono hww)⟩
  · have hR : res = ([], uq) := by rw [Hv.out, if_pos hc]
    subst hR
    clear Hv
    go_wp2
    refine bodyPost_ret (v := .tuple #[.slice none 0 0, .int .i64 uq]) (by simp [results, Try.results27, go_sem, *]) rfl ?_
    exact ⟨_, rfl, World.ownsRow_nil _ _ _ _, (have hba := Hba.out.trans (Hb1.out.mono (Nat.le_of_lt hl)); (by repeat' (first | with_reducible exact Below.refl _ _ | with_reducible assumption | with_reducible refine below_drewN ?_ _ | with_reducible refine Below.drew ?_ | with_reducible refine Below.alloc ?_ ?_ _ | with_reducible refine Below.setCell ?_ ?_ _ | with_reducible refine Below.trans ?_ (Below.mono (by with_reducible assumption) ?_) | with_reducible refine below_only ?_ (by with_reducible assumption) ?_ ?_ | (simp; done) | (simp; omega) | omega)))⟩
end Go.Proofs.Ytjmbdfoegnfpnaa
