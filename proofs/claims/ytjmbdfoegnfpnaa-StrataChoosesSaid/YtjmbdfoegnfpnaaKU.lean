/- Contract: who is chosen (Choose of the reference). -/
import Derived.Test.YtjmbdfoegnfpnaaKN
import Derived.Test.YtjmbdfoegnfpnaaJ6R
namespace Go.Proofs.Ytjmbdfoegnfpnaa
open Go.RowKit Go.Maps
set_option linter.unusedVariables false
set_option linter.unusedSimpArgs false

theorem scoreP_dot2 {q : Pl} {l : List Un} (h : unitsP q l = 0) {u : Un} (hu : u ∈ l) : scoreP q u = dot q.ws u.fs := by
  obtain ⟨hc, _, h1, _⟩ := units_ok h
  obtain ⟨h2, h3⟩ := h1 u hu
  unfold scoreP
  rw [if_neg]
  rintro (h4 | h4 | h4)
  · exact h4 hc
  · simp [outP] at h4; omega
  · rw [h3] at h4; cases h4
theorem strat_score {q : Pl} {l : List Un} (h : unitsP q l = 0) {u : Un} (hu : u ∈ l) : stratP q (scoreP q u) = (strOf q u : Int) := by
  rw [scoreP_dot2 h hu, stratP_ok (units_ok h).1]
  rfl
/-- The rows while the row of stratum s is made. -/
def rowsA (q : Pl) (R : List Int) (m : Nat) (l : List Un) (s : Nat) (r : List Int) : List (List Int) := (List.range m).map fun t => if t < s then restP q l R t else if t = s then r else []
theorem rowsA_len (q : Pl) (R : List Int) (m : Nat) (l : List Un) (s : Nat) (r : List Int) : (rowsA q R m l s r).length = m := by simp [rowsA]
theorem rowsA_get (q : Pl) (R : List Int) (m : Nat) (l : List Un) (s : Nat) (r : List Int) {t : Nat} (h : t < m) : (rowsA q R m l s r)[t]'(by rw [rowsA_len]; exact h) = if t < s then restP q l R t else if t = s then r else [] := by simp [rowsA]
theorem rowsA_at (q : Pl) (R : List Int) (m : Nat) (l : List Un) (s : Nat) (r : List Int) (h : s < m) : (rowsA q R m l s r)[s]'(by rw [rowsA_len]; exact h) = r := by
  rw [rowsA_get _ _ _ _ _ _ h, if_neg (by omega), if_pos rfl]
theorem rowsA_set (q : Pl) (R : List Int) (m : Nat) (l : List Un) (s : Nat) (r r' : List Int) : (rowsA q R m l s r).set s r' = rowsA q R m l s r' := by
  refine List.ext_getElem (by simp [rowsA_len]) (fun t h1 h2 => ?_)
  have htm : t < m := by rw [rowsA_len] at h2; exact h2
  rw [List.getElem_set, rowsA_get _ _ _ _ _ _ htm, rowsA_get _ _ _ _ _ _ htm]
  by_cases h : s = t
  · subst h
    rw [if_pos rfl, if_neg (by omega), if_pos rfl]
  · rw [if_neg h]
    by_cases h3 : t < s
    · rw [if_pos h3, if_pos h3]
    · rw [if_neg h3, if_neg h3, if_neg (fun e => h e.symm), if_neg (fun e => h e.symm)]
theorem rowsA_next (q : Pl) (R : List Int) (m : Nat) (l : List Un) (s : Nat) : rowsA q R m l s (restP q l R s) = rowsA q R m l (s + 1) [] := by
  unfold rowsA
  refine List.map_congr_left (fun t _ => ?_)
  by_cases h : t < s
  · rw [if_pos h, if_pos (by omega)]
  · by_cases h2 : t = s
    · subst h2
      rw [if_neg h, if_pos rfl, if_pos (by omega)]
    · rw [if_neg h, if_neg h2, if_neg (by omega), ite_self]
theorem rowsA_nil (q : Pl) (R : List Int) (m : Nat) (l : List Un) : rowsA q R m l 0 [] = List.replicate m [] := by
  unfold rowsA
  refine List.ext_getElem (by simp) (fun i h1 h2 => by simp)
theorem rowsA_all (q : Pl) (R : List Int) (m : Nat) (l : List Un) : rowsA q R m l m [] = rowsP q R m l := by
  unfold rowsA rowsP
  refine List.map_congr_left (fun t ht => ?_)
  rw [List.mem_range] at ht
  rw [if_pos ht]
  rfl
/-- How many are in the first strata. -/
def cntA (q : Pl) (R : List Int) (l : List Un) (s : Nat) : List Int := (List.range s).map fun t => ((restP q l R t).length : Int)
theorem cntA_len (q : Pl) (R : List Int) (l : List Un) (s : Nat) : (cntA q R l s).length = s := by simp [cntA]
theorem cntA_succ (q : Pl) (R : List Int) (l : List Un) (s : Nat) : cntA q R l (s + 1) = cntA q R l s ++ [((restP q l R s).length : Int)] := by
  unfold cntA
  rw [List.range_succ, List.map_append]
  rfl
theorem cntA_all (q : Pl) (R : List Int) (l : List Un) (m : Nat) : cntA q R l m = lensP (rowsP q R m l) := by
  unfold cntA lensP rowsP
  rw [List.map_map]
  rfl
theorem rest_snoc (q : Pl) (R : List Int) (l : List Un) (s : Nat) (u : Un) : restP q (l ++ [u]) R s = if inS q R s u = true then restP q l R s ++ [u.fm] else restP q l R s := by
  unfold restP farms
  rw [List.filter_append, List.map_append]
  cases h : inS q R s u <;> simp [h]
/-- Rows stay where another row grows. -/
theorem InAt.apart {W W' : World} {I base : Nat} {rows : List (List Int)} {vs : List Value} {row : Option Nat} (h : InAt W I base rows vs) (hg : W.grownBy W' row) (hI : row ≠ some I) (hv : ∀ k (hk : k < vs.length) g, vs[k].ownBlock = some g → row ≠ some g) : InAt W' I base rows vs :=
  ⟨h.len, own_grown h.blk hg (fun g hg2 e => by
    have e2 : I = g := by simpa [Value.ownBlock] using hg2
    exact hI (by rw [e2]; exact e)), fun k h1 h2 => own_grown (h.own k h1 h2) hg (fun g hg2 => hv k h2 g hg2), h.ap, h.lt⟩
/-- No row lies where another list lies. -/
def Free (vs : List Value) (v : Value) : Prop := ∀ k (hk : k < vs.length) g, vs[k].ownBlock = some g → v.ownBlock ≠ some g
theorem Free.set {vs : List Value} {v : Value} (h : Free vs v) {k : Nat} {x : Value} (hk : k < vs.length) (hx : ∀ g, x.ownBlock = some g → v.ownBlock ≠ some g) : Free (vs.set k x) v := by
  intro j hj g hg
  rw [List.getElem_set] at hg
  by_cases e : k = j
  · rw [if_pos e] at hg; exact hx g hg
  · rw [if_neg e] at hg; exact h j (by simpa using hj) g hg
theorem isP_put {O : List (Int × Int)} {D : List Int} {f : Int → Option Int} {t : Nat} {s : Int} (ht : t < D.length) (hn : D.Nodup) (hf : ∀ x ∈ D, f x = none) (h : IsP O (fun x => if x ∈ D.take t then some s else f x)) :
    IsP (putK O (D[t], s)) (fun x => if x ∈ D.take (t + 1) then some s else f x) := by
  have hm := fun x => mem_take_succ ht x
  have hnot : D[t] ∉ D.take t := fun hx => by
    rw [List.mem_take_iff_getElem] at hx
    obtain ⟨j, hj, he⟩ := hx
    have hp := List.nodup_iff_pairwise_ne.1 hn
    rw [List.pairwise_iff_getElem] at hp
    exact hp j t (by omega) ht (by omega) he
  refine h.put (by rw [if_neg hnot, hf _ (List.getElem_mem _)]) (fun x => ?_)
  by_cases h1 : x = D[t]
  · rw [if_pos h1, if_pos ((hm x).2 (.inr h1))]
  · by_cases h2 : x ∈ D.take t
    · rw [if_neg h1, if_pos h2, if_pos ((hm x).2 (.inl h2))]
    · rw [if_neg h1, if_neg h2, if_neg (fun h => ((hm x).1 h).elim h2 h1)]

set_option maxHeartbeats 40000000 in
set_option maxRecDepth 100000 in
theorem chooseR_any (p : PlV) (q : Pl) (A : Option Addr) (c : Nat) (l : List (Un × UV)) (seed : Int) (w : World) (hA : PlAt w p q) (hL : SlU w A l.length c l) :
    Calls Try.prog 28 #[.agg #[.slice p.a1 q.ws.length p.c1, .slice p.a2 q.ls.length p.c2, .slice p.a3 q.ss.length p.c3, .int .i64 q.le, .int .i64 q.ra], .slice A l.length c, .int .u64 seed] w (ChoosePost w (chooseP q (uns l) seed)) := by
  obtain ⟨i0, hi, hz0, hz1, hz2⟩ := info_parts Try.infoIn
  have Hv : Hid (chooseP q (uns l) seed = if unitsP q (uns l) ≠ 0 then ([], unitsP q (uns l)) else (picks (mapF q (uns l) seed (randP q (uns l) seed) q.ss.length) (farms (uns l)), 0)) := Lib.hid rfl
  generalize chooseP q (uns l) seed = res at *
  go_enter Try.func28, Try.ntmps28
  go_upto_region 1 with fail
  obtain ⟨wa, hwa⟩ : ∃ wa : World, wa = w.alloc (.cells #[.slice p.a1 q.ws.length p.c1, .slice p.a2 q.ls.length p.c2, .slice p.a3 q.ss.length p.c3, .int .i64 q.le, .int .i64 q.ra] 24) := ⟨_, rfl⟩; rw [← hwa]; have Hr : Hid (wa.heap[w.heap.size]? = some (.cells #[.slice p.a1 q.ws.length p.c1, .slice p.a2 q.ls.length p.c2, .slice p.a3 q.ss.length p.c3, .int .i64 q.le, .int .i64 q.ra] 24 (0, 0))) := Lib.hid (by rw [hwa]; exact heap_alloc_new w _); have Hba : Hid (Below w.heap.size w wa) := Lib.hid (by rw [hwa]; exact (by repeat' (first | with_reducible exact Below.refl _ _ | with_reducible refine below_drewN ?_ _ | with_reducible refine Below.drew ?_ | with_reducible refine Below.alloc ?_ ?_ _ | with_reducible refine Below.setCell ?_ ?_ _ | with_reducible refine Below.trans ?_ (Below.mono (by with_reducible assumption) ?_) | (simp; done) | (simp; omega) | omega))); have hl : w.heap.size < wa.heap.size := (by rw [hwa]; simp); clear hwa
  have HA := Lib.hid (hA.below Hba.out)
  have HL := Lib.hid (hL.below Hba.out)
  clear hA hL
  have p0 := cell_of_row wa w.heap.size 0 _ _ _ (((Below.refl wa.heap.size wa).block _ hl).trans Hr.out); have p1 := cell_of_row wa w.heap.size 1 _ _ _ (((Below.refl wa.heap.size wa).block _ hl).trans Hr.out); have p2 := cell_of_row wa w.heap.size 2 _ _ _ (((Below.refl wa.heap.size wa).block _ hl).trans Hr.out); have p3 := cell_of_row wa w.heap.size 3 _ _ _ (((Below.refl wa.heap.size wa).block _ hl).trans Hr.out); have p4 := cell_of_row wa w.heap.size 4 _ _ _ (((Below.refl wa.heap.size wa).block _ hl).trans Hr.out)
  have HU := Lib.hid (unitsR_any p q A c l wa HA.out HL.out)
  have Hok := Lib.hid (fun (h : unitsP q (uns l) = 0) => h)
  obtain ⟨uq, huq⟩ : ∃ uq, unitsP q (uns l) = uq := ⟨_, rfl⟩
  rw [huq] at HU Hv
  have Huq := Lib.hid huq
  clear huq Hok
  go_wp2_with fail
  refine HU.out.mono ?_
  rintro e w1 ⟨rfl, hb1⟩
  have Hb1 := Lib.hid hb1
  have hs1 := hb1.size
  clear p0 p1 p2 p3 p4 HU hb1
  by_cases hc : uq = 0
  · subst hc
    have HG := Lib.hid (units_ok Huq.out)
    have HR := Lib.hid (rand_eq Huq.out seed)
    obtain ⟨R, hR⟩ : ∃ R, randP q (uns l) seed = R := ⟨_, rfl⟩
    have Hv2 : Hid (res = (picks (mapF q (uns l) seed R q.ss.length) (farms (uns l)), 0)) := Lib.hid (by rw [Hv.out, if_neg (by simp), hR])
    have HRs : Hid (∀ x ∈ R, 1 ≤ x ∧ x ≤ 60) := Lib.hid (fun x hx => farms_pos Huq.out x (rand_sub Huq.out seed (by rw [hR]; exact hx)))
    have HRl : Hid (R.length ≤ l.length) := Lib.hid (by rw [← hR]; exact rand_len Huq.out seed)
    rw [hR] at HR
    have HRR := Lib.hid hR
    clear hR Hv
    have h60 : l.length ≤ 60 := by have := HG.out.2.1; rwa [uns_len] at this
    obtain ⟨n, hn⟩ : ∃ n, l.length = n := ⟨_, rfl⟩
    have Hn := Lib.hid hn
    rw [uns_len, hn] at HR
    rw [hn] at HL h60 ⊢
    clear hn
    have hrn0 := (rand_nodup Huq.out seed).1
    go_upto_region 4 with fail
    go_wp2_with fail
    go_loopw [9, 10] (fun v i wr => ∃ k : Nat, k ≤ n ∧ i = .int .i64 (k : Int) ∧ wr.ownsRow wa.heap.size 3 1 v k ((farms (uns (l.take k))).map (.int .i64)) ∧ Below wa.heap.size wa wr) (fun _ i _ => n - (intOf i).toNat)
    case atStart => exact ⟨0, Nat.zero_le _, rfl, World.ownsRow_nil _ _ _ _, Hb1.out⟩
    case round =>
      obtain ⟨k, hk, rfl, hown, hbw⟩ := hrel
      have Hbw := Lib.hid hbw
      have hsw := hbw.size
      have Hown := Lib.hid hown
      clear hown hbw
      by_cases hkn : k < n
      · have hkn' : (k : Int) < (n : Int) := by omega
        have hkl : k < l.length := by have := Hn.out; omega
        obtain ⟨b, off, rfl, hb, g0, g1, -⟩ := (HL.out.below Hbw.out).at k hkl
        have Hft := Lib.hid (farms_take hkl)
        generalize l[k].1.fm = fm at *
        generalize l[k].2.a = ua at *
        generalize l[k].1.fs.length = un at *
        generalize l[k].2.c = uc at *
        generalize farms (uns (l.take k)) = Q at *
        clear hkl
        go_wp2_with (first
          | (at_builtin
             refine wpList_append_any _ rfl (.tmp 36) (.tmp 42) _ rfl wa.heap.size 3 i0 _ 1 8 Try.underlying22 hi hz0 hz1 hz2 rfl (by omega) _ k (Q.map (.int .i64)) rfl
               (Hown.out.alloc _) _ _ 1 1 [.int .i64 fm] rfl ⟨rfl, fun _ => ⟨_, rfl, Nat.lt_succ_self _, fun j u hu => (by exact news_any _ _ _ j u hu)⟩⟩ (by simp [Value.oneCell']) (by simp only [maxLen]; omega) (by omega) (by simp; omega) ?_
             intro v5 w5 hown5 hg5 hat5)
          | fail)
        go_roundw
        case rel => exact ⟨k + 1, by omega, by go_num, by rw [Hft.out, List.map_append]; exact hown5, Below.grown (Hbw.out.alloc hsw _) hg5 (by simp; omega) (own_base Hown.out)⟩
        case measure => simp [intOf]; omega
      · obtain rfl : k = n := by omega
        have hkn' : ¬ (k : Int) < (k : Int) := by omega
        obtain ⟨w2, hw2⟩ : ∃ w2 : World, w2 = wr := ⟨_, rfl⟩
        subst hw2
        have Hfe : Hid (farms (uns (l.take k)) = farms (uns l)) := Lib.hid (by rw [List.take_of_length_le (by have := Hn.out; omega)])
        rw [Hfe.out] at Hown
        have Hfl : Hid ((farms (uns l)).length = k) := Lib.hid (by rw [farms_len, uns_len]; exact Hn.out)
        obtain ⟨F, fc, rfl, _, _, _⟩ := own_slice Hown.out
        have HF : Hid (Sl w2 F fc ((farms (uns l)).map (.int .i64))) := Lib.hid (Sl.of_own Hown.out (by simp [Hfl.out]))
        obtain ⟨ra, hra⟩ : ∃ ra, q.ra = ra := ⟨_, rfl⟩
        have P4 := cell_of_row w2 w.heap.size 4 _ _ _ ((Hbw.out.block _ hl).trans Hr.out)
        have hrb := ra_bd HG.out.1
        rw [hra] at P4 HR hrb
        clear hra
        have hm0 : 0 ≤ (k : Int) * ra := Int.mul_nonneg (by omega) hrb.1
        have hm1 : (k : Int) * ra ≤ 60 * 1000 := Int.mul_le_mul (by omega) hrb.2 hrb.1 (by omega)
        have hwm : IntKind.i64.wrap ((k : Int) * ra) = (k : Int) * ra := IntWalk.i64_in _ (by omega)
        have Hup := Lib.hid (fun W => upR1_any ((k : Int) * ra) W hm0 (by omega))
        have HSa : Hid (Calls Try.prog 43 #[.int .u64 seed, .slice F k fc, .int .i64 (upM ((k : Int) * ra))] w2 (SamplePost w2 (R, 0))) := Lib.hid (by
          have := sampleR_any seed F fc (farms (uns l)) (upM ((k : Int) * ra)) w2 HF.out
          rw [Hfl.out, HR.out] at this
          exact this)
        have HRn : Hid R.Nodup := Lib.hid (by rw [← HRR.out]; exact hrn0)
        clear hrn0
        generalize upM ((k : Int) * ra) = up at *
        go_wp2_with fail
        refine (Hup.out _).mono ?_
        rintro e w3 ⟨rfl, rfl⟩
        go_wp2_with fail
        refine HSa.out.mono ?_
        rintro e w3 ⟨vr, rfl, hown3, hb3⟩
        have Hb3 := Lib.hid (Hbw.out.trans (hb3.mono hsw))
        obtain ⟨rn, hrn⟩ : ∃ rn, R.length = rn := ⟨_, rfl⟩
        have Hrn := Lib.hid hrn
        try dsimp only at hown3
        rw [hrn] at hown3
        obtain ⟨G, gc, rfl, _, _, _⟩ := own_slice hown3
        have HG3 : Hid (Sl w3 G gc (R.map (.int .i64))) := Lib.hid (Sl.of_own hown3 (by simp [hrn]))
        have hrn60 : rn ≤ 60 := (by have h1 := HRl.out; have h2 := Hn.out; have h3 := Hrn.out; omega)
        have hs3 := Hb3.out.size
        clear P4 hm0 hm1 hwm Hup HSa hown3 hb3 hrn HF Hown
        go_upto_region 12 with fail
        go_wp2_with fail
        go_loopw [13, 14] (fun v i wr => ∃ (j : Nat) (O : List (Int × Int)), j ≤ rn ∧ i = .int .i64 (j : Int) ∧ wr.ownsRow wa.heap.size 55 2 v O.length (pCells O) ∧ IsP O (fun x => if x ∈ R.take j then some (-1) else none) ∧ Below w3.heap.size w3 wr) (fun _ i _ => rn - (intOf i).toNat)
        case atStart => exact ⟨0, [], Nat.zero_le _, rfl, World.ownsRow_nil _ _ _ _, IsP.nil.congr (fun x => by simp), Below.refl _ _⟩
        case round =>
          obtain ⟨j, O, hj, rfl, hown, hO, hbw⟩ := hrel
          have Hown := Lib.hid hown
          have HO := Lib.hid hO
          have Hb4 := Lib.hid hbw
          have hs4 := hbw.size
          obtain ⟨OA, oc, rfl, _, _, _⟩ := own_slice hown
          clear hown hO hbw
          by_cases hjn : j < rn
          · have hjn' : (j : Int) < (rn : Int) := by omega
            have hjl : j < R.length := by have := Hrn.out; omega
            obtain ⟨b, off, rfl, hb, cR⟩ := (HG3.out.below Hb4.out).at j hjl
            have HO2 := Lib.hid (isP_put hjl HRn.out (fun _ _ => rfl) HO.out)
            have hOl : O.length ≤ k := by
              have := HO.out.len (units_ok Huq.out).2.2.2 (fun x z hx => by
                try dsimp only at hx
                split at hx
                · rename_i hm; exact rand_sub Huq.out seed (by rw [HRR.out]; exact List.mem_of_mem_take hm)
                · cases hx)
              rwa [Hfl.out] at this
            have HPut : Hid (Calls Try.prog 44 #[.slice OA O.length oc, .agg #[.int .i64 R[j], .int .i64 (-1)]] wr (PicksPost wr (putK O (R[j], -1)))) := Lib.hid (by
              obtain ⟨A2, c2, he, h2⟩ := SlK.of_own Hown.out
              injection he with e1 e2 e3
              subst e1 e3
              exact putK_any OA O.length oc O (R[j], -1) wr h2 (by omega))
            generalize putK O (R[j], -1) = O2 at *
            generalize R[j] = y at *
            go_wp2_with fail
            refine HPut.out.mono ?_
            rintro e w5 ⟨v5, rfl, hown5, hb5⟩
            go_wp2
            go_roundw
            case rel => exact ⟨j + 1, O2, by omega, by go_num, own_rebase hown5 (by omega), HO2.out, Hb4.out.trans (hb5.mono hs4)⟩
            case measure => simp [intOf]; omega
          · obtain rfl : j = rn := by omega
            have hjn' : ¬ (j : Int) < (j : Int) := by omega
            obtain ⟨w4, hw4⟩ : ∃ w4 : World, w4 = wr := ⟨_, rfl⟩
            subst hw4
            have HO4 : Hid (IsP O (mapF q (uns l) seed R 0)) := Lib.hid (HO.out.congr (fun x => by rw [List.take_of_length_le (by have := Hrn.out; omega)]; rfl))
            have HG4 := Lib.hid (HG3.out.below Hb4.out)
            clear HO
            obtain ⟨m, hm⟩ : ∃ m, q.ss.length = m := ⟨_, rfl⟩
            have Hm := Lib.hid hm
            have hm6 : 1 ≤ m ∧ m ≤ 6 := by
              obtain ⟨-, -, h1, -, h2, -⟩ := (planB_iff q).1 (checkP_zero HG.out.1)
              omega
            rw [hm] at Hv2
            clear hm
            have Hb4w : Hid (Below wa.heap.size wa w4) := Lib.hid (Hb3.out.trans (Hb4.out.mono hs3))
            have hs4w := Hb4w.out.size
            have P2 := cell_of_row w4 w.heap.size 2 _ _ _ ((Hb4w.out.block _ hl).trans Hr.out)
            rw [Hm.out] at P2
            have hmk1 := fun W : World => run_make_row' (P := Try.prog) 43 22 (.slice none 0 0) 24 Try.underlying43 Try.infoRow rfl .i64 .i64 m (by omega) (by omega) W
            go_upto_region 18 with fail
            clear P2 hmk1
            obtain ⟨w6, hw6⟩ : ∃ w6 : World, w6 = w4.alloc (.cells (madeCells #[.slice none 0 0] m) 22) := ⟨_, rfl⟩
            rw [← hw6]
            have HI0 : Hid (InAt w6 w4.heap.size (w4.heap.size + 1) (List.replicate m []) (List.replicate m (.slice none 0 0))) := Lib.hid (by
              rw [hw6]
              exact InAt.made w4 (w4.heap.size + 1) m (by unfold maxLen; omega) (by omega))
            have Hb46 : Hid (Below w4.heap.size w4 w6) := Lib.hid (by rw [hw6]; exact (by repeat' (first | with_reducible exact Below.refl _ _ | with_reducible refine below_drewN ?_ _ | with_reducible refine Below.drew ?_ | with_reducible refine Below.alloc ?_ ?_ _ | with_reducible refine Below.setCell ?_ ?_ _ | with_reducible refine Below.trans ?_ (Below.mono (by with_reducible assumption) ?_) | (simp; done) | (simp; omega) | omega)))
            have hs6 : w4.heap.size + 1 ≤ w6.heap.size := by rw [hw6]; simp
            clear hw6
            go_wp2_with fail
            go_loopw [16, 17, 18] (fun cv sv _ wr => ∃ (s : Nat) (vs : List Value), s ≤ m ∧ sv = .int .i64 (s : Int) ∧ InAt wr w4.heap.size (w4.heap.size + 1) (rowsA q R m (uns l) s []) vs ∧ wr.ownsRow (w4.heap.size + 1) 3 1 cv s ((cntA q R (uns l) s).map (.int .i64)) ∧ Free vs cv ∧ Below w4.heap.size w4 wr ∧ w4.heap.size + 1 ≤ wr.heap.size) (fun _ sv _ _ => m - (intOf sv).toNat)
            case atStart => exact ⟨0, _, Nat.zero_le _, rfl, by rw [rowsA_nil]; exact HI0.out, World.ownsRow_nil _ _ _ _, fun k hk g hg => by simp [Value.ownBlock], Hb46.out, hs6⟩
            case round =>
              obtain ⟨s, vs, hs, rfl, hI, hC, hF, hbr, hsr⟩ := hrel
              obtain ⟨wo, rfl⟩ : ∃ wo : World, wo = wr := ⟨_, rfl⟩
              obtain ⟨C1, cc1, rfl, _, _, _⟩ := own_slice hC
              have HI := Lib.hid hI
              have HC := Lib.hid hC
              have HF := Lib.hid hF
              have Hbr := Lib.hid hbr
              have Hbw : Hid (Below wa.heap.size wa wo) := Lib.hid (Hb4w.out.trans (hbr.mono hs4w))
              clear hI hC hF hbr
              have hswo := Hbw.out.size
              have P2 := cell_of_row wo w.heap.size 2 _ _ _ ((Hbw.out.block _ hl).trans Hr.out)
              rw [Hm.out] at P2
              by_cases hsm : s < m
              · have hsm' : (s : Int) < (m : Int) := by omega
                go_upto_region 22 with fail
                clear P2
                go_wp2_with fail
                go_loopw [18] (fun iv wr => ∃ (t : Nat) (vt : List Value), t ≤ k ∧ iv = .int .i64 (t : Int) ∧ InAt wr w4.heap.size (w4.heap.size + 1) (rowsA q R m (uns l) s (restP q (uns (l.take t)) R s)) vt ∧ wr.ownsRow (w4.heap.size + 1) 3 1 (.slice C1 s cc1) s ((cntA q R (uns l) s).map (.int .i64)) ∧ Free vt (.slice C1 s cc1) ∧ Below w4.heap.size w4 wr ∧ w4.heap.size + 1 ≤ wr.heap.size) (fun iv _ => k - (intOf iv).toNat)
                case atStart => exact ⟨0, vs, Nat.zero_le _, rfl, by have := HI.out; rwa [show restP q (uns (l.take 0)) R s = [] from by simp [restP, uns, farms]], HC.out, HF.out, Hbr.out, hsr⟩
                case round =>
                  obtain ⟨t, vt, ht, rfl, hI, hC, hF, hbr2, hsr2⟩ := hrel
                  have HI2 := Lib.hid hI
                  have HC2 := Lib.hid hC
                  have HF2 := Lib.hid hF
                  have Hbr2 := Lib.hid hbr2
                  have Hbt : Hid (Below wa.heap.size wa wr) := Lib.hid (Hb4w.out.trans (hbr2.mono hs4w))
                  have hst := Hbt.out.size
                  clear hI hC hF hbr2
                  by_cases htk : t < k
                  · have htk' : (t : Int) < (k : Int) := by omega
                    have htl : t < l.length := by have := Hn.out; omega
                    obtain ⟨b, off, rfl, hb, g0', g1', hfit⟩ := HL.out.at t htl
                    have g0 := (Hbt.out.cell (p := ⟨b, off + t * 2, none⟩) hb).trans g0'
                    have g1 := (Hbt.out.cell (p := ⟨b, off + t * 2 + 1, none⟩) hb).trans g1'
                    have Hfit := Lib.hid (hfit.below Hbt.out)
                    clear g0' g1' hfit
                    have Hst := Lib.hid (show uns (l.take (t + 1)) = uns (l.take t) ++ [l[t].1] by rw [List.take_succ_eq_append_getElem htl]; unfold uns; rw [List.map_append]; rfl)
                    have Hrs := Lib.hid (rest_snoc q R (uns (l.take t)) s l[t].1)
                    rw [← Hst.out] at Hrs
                    have Hss := Lib.hid (strat_score Huq.out (u := l[t].1) (by unfold uns; exact List.mem_map_of_mem (List.getElem_mem _)))
                    obtain ⟨xx, hxx⟩ : ∃ xx, l[t] = xx := ⟨_, rfl⟩
                    rw [hxx] at g0 g1 Hfit Hst Hrs Hss
                    clear hxx htl Hst
                    obtain ⟨u, v⟩ := xx
                    dsimp only at g0 g1 Hfit Hrs Hss
                    have p0 := cell_of_row wr w.heap.size 0 _ _ _ ((Hbt.out.block _ hl).trans Hr.out); have p1 := cell_of_row wr w.heap.size 1 _ _ _ ((Hbt.out.block _ hl).trans Hr.out); have p2 := cell_of_row wr w.heap.size 2 _ _ _ ((Hbt.out.block _ hl).trans Hr.out); have p3 := cell_of_row wr w.heap.size 3 _ _ _ ((Hbt.out.block _ hl).trans Hr.out); have p4 := cell_of_row wr w.heap.size 4 _ _ _ ((Hbt.out.block _ hl).trans Hr.out)
                    have hlw : w.heap.size < wr.heap.size := by omega
                    have hbrr : b < wr.heap.size := by omega
                    obtain ⟨so, hso⟩ : ∃ so, strOf q u = so := ⟨_, rfl⟩
                    have HinS : Hid (inS q R s u = (decide (u.fm ∉ R) && decide (so = s))) := Lib.hid (by rw [← hso]; rfl)
                    have HHas : Hid (∀ W, Below wr.heap.size wr W → Calls Try.prog 45 #[.slice G j gc, .int .i64 u.fm] W fun e w' => e = .returned (.bool (decide (u.fm ∈ R))) ∧ W = w') := Lib.hid (fun W hW => (has_any G j gc R u.fm W (HG4.out.below (Hbr2.out.trans (hW.mono (by omega)))) Hrn.out).mono (fun e w' ⟨h1, h2⟩ => ⟨h1, h2.symm⟩))
                    obtain ⟨sc, hsc⟩ : ∃ sc, scoreP q u = sc := ⟨_, rfl⟩
                    have HSc : Hid (∀ W, Below wr.heap.size wr W → Calls Try.prog 21 #[.agg #[.slice p.a1 q.ws.length p.c1, .slice p.a2 q.ls.length p.c2, .slice p.a3 q.ss.length p.c3, .int .i64 q.le, .int .i64 q.ra], .agg #[.int .i64 u.fm, .slice v.a u.fs.length v.c]] W fun e w' => e = .returned (.int .i64 sc) ∧ Below W.heap.size W w') := Lib.hid (fun W hW => by
                      have := scoR_any p q v u W (HA.out.below (Hbt.out.trans (hW.mono hst))) (Hfit.out.below hW)
                      rw [hsc] at this
                      exact this)
                    have HSt : Hid (∀ W, Below wr.heap.size wr W → Calls Try.prog 19 #[.agg #[.slice p.a1 q.ws.length p.c1, .slice p.a2 q.ls.length p.c2, .slice p.a3 q.ss.length p.c3, .int .i64 q.le, .int .i64 q.ra], .int .i64 sc] W fun e w' => e = .returned (.int .i64 (so : Int)) ∧ Below W.heap.size W w') := Lib.hid (fun W hW => by
                      have := stratR_any p q sc W (HA.out.below (Hbt.out.trans (hW.mono hst)))
                      rw [← hsc, Hss.out, hso] at this
                      rw [← hsc]
                      exact this)
                    clear hsc hso Hss
                    by_cases hin : u.fm ∈ R
                    · have hind : decide (u.fm ∈ R) = true := decide_eq_true hin
                      have Hrs2 : Hid (restP q (uns (l.take (t + 1))) R s = restP q (uns (l.take t)) R s) := Lib.hid (by rw [Hrs.out, if_neg]; rw [HinS.out]; simp [hin])
                      rw [hind] at HHas
                      clear Hrs HinS hin hind
                      go_upto_region 25 with fail
                      refine wp_region_below (W := wr) wr.heap.size (Nat.le_refl _) (by kernel_rfl) (by kernel_rfl) ?_
                      intro I _ F' hFc hFb hFs
                      repeat (go_big_quiet_step ((first
                        | (go_at_call 45; with_reducible exact class_same (HHas.out _ (hFb _)))
                        | (go_at_call 21; with_reducible exact class_call hFb hFs (Nat.le_refl _) (HSc.out _ (hFb _)))
                        | (go_at_call 19; with_reducible exact class_call hFb hFs (Nat.le_refl _) (HSt.out _ (hFb _))))))
                      refine wpQuiet_nil ?_
                      rintro _ ⟨iq, rfl⟩
                      go_wp2
                      go_roundw
                      case rel => exact ⟨t + 1, vt, by omega, by go_num, by rw [Hrs2.out]; exact HI2.out.below (hFb iq), ownsRow_below HC2.out (hFb iq), HF2.out, Hbr2.out.trans ((hFb iq).mono (by omega)), by have := (hFb iq).size; omega⟩
                      case measure => simp [intOf]; omega
                    · have hind : decide (u.fm ∈ R) = false := decide_eq_false hin
                      by_cases hes : so = s
                      · subst hes
                        have Hrs2 : Hid (restP q (uns (l.take (t + 1))) R so = restP q (uns (l.take t)) R so ++ [u.fm]) := Lib.hid (by rw [Hrs.out, if_pos]; rw [HinS.out]; simp [hin])
                        rw [hind] at HHas
                        clear Hrs HinS hin hind
                        go_upto_region 25 with fail
                        refine wp_region_below (W := wr) wr.heap.size (Nat.le_refl _) (by kernel_rfl) (by kernel_rfl) ?_
                        intro I _ F' hFc hFb hFs
                        repeat (go_big_quiet_step ((first
                          | (go_at_call 45; with_reducible exact class_same (HHas.out _ (hFb _)))
                          | (go_at_call 21; with_reducible exact class_call hFb hFs (Nat.le_refl _) (HSc.out _ (hFb _)))
                          | (go_at_call 19; with_reducible exact class_call hFb hFs (Nat.le_refl _) (HSt.out _ (hFb _))))))
                        refine wpQuiet_nil ?_
                        rintro _ ⟨iq, rfl⟩
                        obtain ⟨w8, hw8⟩ : ∃ w8 : World, w8 = F' iq := ⟨_, rfl⟩
                        have Hb8 : Hid (Below wr.heap.size wr w8) := Lib.hid (by rw [hw8]; exact hFb iq)
                        rw [← hw8]
                        clear hw8 hFc hFb hFs HHas HSc HSt p0 p1 p2 p3 p4
                        have HI8 := Lib.hid (HI2.out.below Hb8.out)
                        have HC8 := Lib.hid (ownsRow_below HC2.out Hb8.out)
                        have hs8 := Hb8.out.size
                        have hml := rowsA_len q R m (uns l) so (restP q (uns (l.take t)) R so)
                        have hvl : vt.length = m := HI2.out.len.trans hml
                        have hsv : so < vt.length := by omega
                        have hsr' : so < (rowsA q R m (uns l) so (restP q (uns (l.take t)) R so)).length := by omega
                        have Hrow := Lib.hid (rowsA_at q R m (uns l) so (restP q (uns (l.take t)) R so) hsm)
                        have Hrlen : Hid ((restP q (uns (l.take t)) R so).length ≤ 60) := Lib.hid (by
                          have := rest_len (q := q) (l := uns (l.take t)) (R := R) (s := so)
                          rw [uns_len, List.length_take] at this
                          omega)
                        have Hin := Lib.hid (HI8.out.own so hsr' hsv)
                        rw [Hrow.out] at Hin
                        have Hnb : Hid (∀ g, vt[so].ownBlock = some g → w4.heap.size + 1 ≤ g ∧ g < wr.heap.size) := Lib.hid (fun g hg => ⟨own_base (HI2.out.own so hsr' hsv) g hg, own_lt (HI2.out.own so hsr' hsv) g hg⟩)
                        have Hpush : Hid (∀ (Wa W5 : World) (v5 : Value), Below w8.heap.size w8 Wa → Wa.grownBy W5 vt[so].ownBlock → W5.ownsRow (w4.heap.size + 1) 3 1 v5 ((restP q (uns (l.take t)) R so).length + 1) ((restP q (uns (l.take t)) R so).map (Value.int .i64) ++ [.int .i64 u.fm]) → (v5.ownBlock = vt[so].ownBlock ∨ v5.ownBlock = some Wa.heap.size) →
                            InAt (W5.setCell ⟨w4.heap.size, so, none⟩ v5) w4.heap.size (w4.heap.size + 1) (rowsA q R m (uns l) so (restP q (uns (l.take t)) R so ++ [u.fm])) (vt.set so v5)) := Lib.hid (fun Wa W5 v5 h1 h2 h3 h4 => by
                          have := HI8.out.push hsr' hsv (x := u.fm) h1 h2 (by rw [Hrow.out]; exact h3) h4
                          rw [Hrow.out, rowsA_set] at this
                          exact this)
                        have Hmid : Hid (∀ (Wa W5 : World), Below w8.heap.size w8 Wa → Wa.grownBy W5 vt[so].ownBlock → W5.ownsRow w4.heap.size 22 1 (.slice (some ⟨w4.heap.size, 0, none⟩) m m) m vt) := Lib.hid (fun Wa W5 h1 h2 => by
                          have := HI8.out.mid hsr' hsv h1 h2
                          rwa [hml] at this)
                        have Hce : Hid (vt[so]? = some vt[so]) := Lib.hid (by simp [hsv])
                        have hbr8 : b < wr.heap.size := by omega
                        have Hcell : Hid (∀ W, Below w8.heap.size w8 W → W.cell? ⟨w4.heap.size, so, none⟩ = some vt[so] ∧ W.cell? ⟨b, off + t * 2, none⟩ = some (.int .i64 u.fm)) := Lib.hid (fun W hW => ⟨(HI8.out.below hW).cell hsv, (hW.cell (p := ⟨b, off + t * 2, none⟩) (by show b < w8.heap.size; omega)).trans ((Hb8.out.cell (p := ⟨b, off + t * 2, none⟩) hbr8).trans g0)⟩)
                        have HFs : Hid (∀ g, vt[so].ownBlock = some g → (Value.slice C1 so cc1).ownBlock ≠ some g) := Lib.hid (HF2.out so hsv)
                        generalize vt[so] = vv at *
                        generalize restP q (uns (l.take t)) R so = row at *
                        generalize u.fm = fm at *
                        go_upto_region 26 with fail
                        have hm0 : 0 < m := by omega
                        obtain ⟨c0, c1⟩ := Hcell.out w8.drew (Below.drew (Below.refl _ _))
                        refine wp_region_held_tail (S := fun w' => w'.cell? ⟨w4.heap.size, so, none⟩ = some vv ∧ w'.cell? ⟨b, off + t * 2, none⟩ = some (.int .i64 fm)) 13 (by kernel_rfl) (by kernel_rfl) (by kernel_rfl) ?_
                        have hHeld : (fun w' : World => w'.cell? ⟨w4.heap.size, so, none⟩ = some vv ∧ w'.cell? ⟨b, off + t * 2, none⟩ = some (.int .i64 fm)) w8.drew := ⟨c0, c1⟩
                        simp only [List.take_succ_cons, List.take_zero, List.replicate]
                        refine wpAnyH_take (i := 0) (v := ?vva0) rfl (by kernel_rfl) (by kernel_rfl) (by kernel_rfl) (fun _ _ _ h => h) (Or.inl ⟨by rfl, ?hya0⟩) hHeld ?resta0; (case hya0 => (intro w hSw; (try dsimp only at hSw); go_simp; all_goals (with_reducible rfl))); simp only [Act.put, List.setIfInBounds_toArray, List.set_cons_zero, List.set_cons_succ]
                        refine wpAnyH_take (i := 1) (v := ?vva1) rfl (by kernel_rfl) (by kernel_rfl) (by kernel_rfl) (fun _ _ _ h => h) (Or.inl ⟨by rfl, ?hya1⟩) hHeld ?resta1; (case hya1 => (intro w hSw; (try dsimp only at hSw); go_simp; all_goals (with_reducible rfl))); simp only [Act.put, List.setIfInBounds_toArray, List.set_cons_zero, List.set_cons_succ]
                        refine wpAnyH_take (i := 2) (v := ?vva2) rfl (by kernel_rfl) (by kernel_rfl) (by kernel_rfl) (fun _ _ _ h => h) (Or.inl ⟨by rfl, ?hya2⟩) hHeld ?resta2; (case hya2 => (intro w hSw; (try dsimp only at hSw); go_simp; all_goals (with_reducible rfl))); simp only [Act.put, List.setIfInBounds_toArray, List.set_cons_zero, List.set_cons_succ]
                        refine wpAnyH_take (i := 3) (v := ?vva3) rfl (by kernel_rfl) (by kernel_rfl) (by kernel_rfl) (fun _ _ _ h => h) (Or.inl ⟨by rfl, ?hya3⟩) hHeld ?resta3; (case hya3 => (intro w hSw; (try dsimp only at hSw); go_simp; all_goals (with_reducible rfl))); simp only [Act.put, List.setIfInBounds_toArray, List.set_cons_zero, List.set_cons_succ]
                        refine wpAnyH_take (i := 4) (v := ?vva4) rfl (by kernel_rfl) (by kernel_rfl) (by kernel_rfl) (fun _ _ _ h => h) (Or.inl ⟨by rfl, ?hya4⟩) hHeld ?resta4; (case hya4 => (intro w hSw; (try dsimp only at hSw); go_simp; all_goals (with_reducible rfl))); simp only [Act.put, List.setIfInBounds_toArray, List.set_cons_zero, List.set_cons_succ]
                        refine wpAnyH_take (i := 5) (v := ?vva5) rfl (by kernel_rfl) (by kernel_rfl) (by kernel_rfl) (fun _ _ _ h => h) (Or.inl ⟨by rfl, ?hya5⟩) hHeld ?resta5; (case hya5 => (intro w hSw; (try dsimp only at hSw); go_simp; all_goals (with_reducible rfl))); simp only [Act.put, List.setIfInBounds_toArray, List.set_cons_zero, List.set_cons_succ]
                        refine wpAnyH_take (i := 6) (v := ?vva6) rfl (by kernel_rfl) (by kernel_rfl) (by kernel_rfl) (fun _ _ _ h => h) (Or.inl ⟨by rfl, ?hya6⟩) hHeld ?resta6; (case hya6 => (intro w hSw; (try dsimp only at hSw); go_simp; all_goals (with_reducible rfl))); simp only [Act.put, List.setIfInBounds_toArray, List.set_cons_zero, List.set_cons_succ]
                        refine wpAnyH_take (i := 7) (v := ?vva7) rfl (by kernel_rfl) (by kernel_rfl) (by kernel_rfl) (fun _ _ _ h => h) (Or.inl ⟨by rfl, ?hya7⟩) hHeld ?resta7; (case hya7 => (intro w hSw; (try dsimp only at hSw); go_simp; all_goals (with_reducible rfl))); simp only [Act.put, List.setIfInBounds_toArray, List.set_cons_zero, List.set_cons_succ]
                        refine wpAnyH_take (i := 8) (v := ?vva8) rfl (by kernel_rfl) (by kernel_rfl) (by kernel_rfl) (fun _ _ _ h => h) (Or.inl ⟨by rfl, ?hya8⟩) hHeld ?resta8; (case hya8 => (intro w hSw; (try dsimp only at hSw); go_simp; all_goals (with_reducible rfl))); simp only [Act.put, List.setIfInBounds_toArray, List.set_cons_zero, List.set_cons_succ]
                        refine wpAnyH_take (i := 9) (v := ?vva9) rfl (by kernel_rfl) (by kernel_rfl) (by kernel_rfl) (fun _ _ _ h => h) (Or.inl ⟨by rfl, ?hya9⟩) hHeld ?resta9; (case hya9 => (intro w hSw; (try dsimp only at hSw); go_simp; all_goals (with_reducible rfl))); simp only [Act.put, List.setIfInBounds_toArray, List.set_cons_zero, List.set_cons_succ]
                        refine wpAnyH_take (i := 10) (v := ?vva10) rfl (by kernel_rfl) (by kernel_rfl) (by kernel_rfl) (fun _ _ _ h => h) (Or.inl ⟨by rfl, ?hya10⟩) hHeld ?resta10; (case hya10 => (intro w hSw; (try dsimp only at hSw); go_simp; all_goals (with_reducible rfl))); simp only [Act.put, List.setIfInBounds_toArray, List.set_cons_zero, List.set_cons_succ]
                        refine wpAnyH_ready (rs := [11]) (by kernel_rfl) (by simp) ?_; refine AllReadyH.cons rfl (fun K hK => ?_) AllReadyH.nil
                        go_simp
                        have Hb9 : Hid (Below w8.heap.size w8 (w8.drew.alloc (.cells #[.int .i64 fm] 3))) := Lib.hid (by exact (by repeat' (first | with_reducible exact Below.refl _ _ | with_reducible assumption | with_reducible refine below_drewN ?_ _ | with_reducible refine Below.drew ?_ | with_reducible refine Below.alloc ?_ ?_ _ | with_reducible refine Below.setCell ?_ ?_ _ | with_reducible refine Below.trans ?_ (Below.mono (by with_reducible assumption) ?_) | with_reducible refine below_only ?_ (by with_reducible assumption) ?_ ?_ | (simp; done) | (simp; omega) | omega)))
                        refine hK.out _ _ ⟨(Hcell.out _ Hb9.out).1, (Hcell.out _ Hb9.out).2⟩ (fun hHeld => ?_); clear hK K; (try simp only [Act.put, List.setIfInBounds_toArray, List.set_cons_zero, List.set_cons_succ])
                        refine wpAnyH_ready (rs := [12]) (by kernel_rfl) (by simp) ?_; refine AllReadyH.cons rfl (fun K hK => ?_) AllReadyH.nil
                        refine step_append_any _ rfl (.tmp 114) (.tmp 120) 22 rfl (w4.heap.size + 1) 3 i0 (.int .i64 0) 1 8 Try.underlying22 hi hz0 hz1 hz2 rfl (by omega) vv row.length (row.map (Value.int .i64)) rfl (ownsRow_below Hin.out Hb9.out) _ _ 1 1 [.int .i64 fm] rfl ⟨rfl, fun _ => ⟨_, rfl, Nat.lt_succ_self _, fun j u hu => (by exact news_any _ _ _ j u hu)⟩⟩ (by simp [Value.oneCell']) (by have := Hrlen.out; simp only [maxLen]; omega) (by have := Hrlen.out; omega) (by simp; omega) ?_
                        intro v5 w10 hown5 hg5 hat5
                        obtain ⟨A5, e5, rfl, _, _, _⟩ := own_slice hown5
                        have Hown5 := Lib.hid hown5
                        have Hg5 := Lib.hid hg5
                        have Hat5 := Lib.hid hat5
                        clear hown5 hg5 hat5
                        obtain ⟨hIlt, hIc, hIf⟩ := own_top (Hmid.out _ _ Hb9.out Hg5.out) hm0
                        have d0 := hIc so vv Hce.out
                        have f0 := hIf so
                        have hwr10 : w10.cell? ⟨b, off + t * 2, none⟩ = some (.int .i64 fm) := (World.cell?_of_block (a := ⟨b, off + t * 2, none⟩) (Hg5.out.block b (by simp; omega) (fun e => by have := (Hnb.out b e.symm).1; omega))).trans (Hcell.out _ Hb9.out).2
                        clear hIc hIf
                        refine hK.out _ _ ⟨d0, hwr10⟩ (fun hHeld => ?_); clear hK K; (try simp only [Act.put, List.setIfInBounds_toArray, List.set_cons_zero, List.set_cons_succ])
                        refine wpAnyH_done (by kernel_rfl) ?_ _
                        clear hHeld
                        show wpList _ _ _ _ _ _
                        simp only [List.drop_succ_cons, List.drop_zero]
                        have HP := Lib.hid (Hpush.out _ _ _ Hb9.out Hg5.out Hown5.out Hat5.out)
                        have HCn : Hid ((w10.setCell ⟨w4.heap.size, so, none⟩ (.slice A5 (row.length + 1) e5)).ownsRow (w4.heap.size + 1) 3 1 (.slice C1 so cc1) so ((cntA q R (uns l) so).map (.int .i64))) := Lib.hid (own_setOut (own_grown (ownsRow_below HC8.out Hb9.out) Hg5.out (fun g hg e => HFs.out g e hg)) (by show w4.heap.size < w4.heap.size + 1; omega) _)
                        have HFn : Hid (Free (vt.set so (.slice A5 (row.length + 1) e5)) (.slice C1 so cc1)) := Lib.hid (HF2.out.set hsv (fun g hg e => by
                          rcases Hat5.out with h0 | h0
                          · exact HFs.out g (h0 ▸ hg) e
                          · rw [h0] at hg
                            have h1 := own_lt HC2.out g e
                            injection hg with hg
                            simp at hg
                            omega))
                        clear hwr10
                        go_wp2
                        go_roundw
                        case rel =>
                          have hb10 : Below w4.heap.size w4 w10 := Below.grown ((Hbr2.out.trans (Hb8.out.mono (by omega))).trans (Hb9.out.mono (by omega))) Hg5.out (by simp; omega) (fun g hg => by have := (Hnb.out g hg).1; omega)
                          refine ⟨t + 1, _, by omega, by go_num, by rw [Hrs2.out]; exact HP.out, HCn.out, HFn.out, hb10.setCell (by simp) _, ?_⟩
                          have h1 := Hg5.out.size
                          simp [World.setCell] at h1 ⊢
                          omega
                        case measure => simp [intOf]; omega
                      · have hes' : ¬ (so : Int) = (s : Int) := by omega
                        have Hrs2 : Hid (restP q (uns (l.take (t + 1))) R s = restP q (uns (l.take t)) R s) := Lib.hid (by rw [Hrs.out, if_neg]; rw [HinS.out]; simp [hes])
                        rw [hind] at HHas
                        clear Hrs HinS hin hind
                        go_upto_region 25 with fail
                        refine wp_region_below (W := wr) wr.heap.size (Nat.le_refl _) (by kernel_rfl) (by kernel_rfl) ?_
                        intro I _ F' hFc hFb hFs
                        repeat (go_big_quiet_step ((first
                          | (go_at_call 45; with_reducible exact class_same (HHas.out _ (hFb _)))
                          | (go_at_call 21; with_reducible exact class_call hFb hFs (Nat.le_refl _) (HSc.out _ (hFb _)))
                          | (go_at_call 19; with_reducible exact class_call hFb hFs (Nat.le_refl _) (HSt.out _ (hFb _))))))
                        refine wpQuiet_nil ?_
                        rintro _ ⟨iq, rfl⟩
                        go_wp2
                        go_roundw
                        case rel => exact ⟨t + 1, vt, by omega, by go_num, by rw [Hrs2.out]; exact HI2.out.below (hFb iq), ownsRow_below HC2.out (hFb iq), HF2.out, Hbr2.out.trans ((hFb iq).mono (by omega)), by have := (hFb iq).size; omega⟩
                        case measure => simp [intOf]; omega
                  · obtain rfl : t = k := by omega
                    have htk' : ¬ (t : Int) < (t : Int) := by omega
                    obtain ⟨w9, rfl⟩ : ∃ w9 : World, w9 = wr := ⟨_, rfl⟩
                    rw [List.take_of_length_le (by have := Hn.out; omega : l.length ≤ t)] at HI2
                    have hsv : s < vt.length := by rw [HI2.out.len, rowsA_len]; exact hsm
                    have hsr3 : s < (rowsA q R m (uns l) s (restP q (uns l) R s)).length := by rw [rowsA_len]; exact hsm
                    have cI := HI2.out.cell hsv
                    have hwd := HI2.out.own s hsr3 hsv
                    rw [rowsA_at q R m (uns l) s _ hsm] at hwd
                    obtain ⟨An, ac, hve, _, _, _⟩ := own_slice hwd
                    rw [hve] at cI
                    have Hrl60 : Hid ((restP q (uns l) R s).length ≤ 60) := Lib.hid (by
                      have := rest_len (q := q) (l := uns l) (R := R) (s := s)
                      rw [uns_len, Hn.out] at this
                      omega)
                    have Hcs := Lib.hid (cntA_succ q R (uns l) s)
                    have Hnx := Lib.hid (rowsA_next q R m (uns l) s)
                    rw [Hnx.out] at HI2
                    have hIlt : w4.heap.size < w9.heap.size := by omega
                    clear hwd hve Hnx
                    generalize (restP q (uns l) R s).length = rl at *
                    go_wp2_with (first
                      | (at_builtin
                         refine wpList_append_any _ rfl (.tmp 123) (.tmp 129) _ rfl (w4.heap.size + 1) 3 i0 _ 1 8 Try.underlying22 hi hz0 hz1 hz2 rfl (by omega) _ s ((cntA q R (uns l) s).map (.int .i64)) rfl
                           (HC2.out.alloc _) _ _ 1 1 [.int .i64 (rl : Int)] rfl ⟨rfl, fun _ => ⟨_, rfl, Nat.lt_succ_self _, fun j u hu => (by exact news_any _ _ _ j u hu)⟩⟩ (by simp [Value.oneCell']) (by simp only [maxLen]; omega) (by omega) (by simp; omega) ?_
                         intro v5 w5 hown5 hg5 hat5)
                      | fail)
                    go_roundw
                    case rel =>
                      have hI3 := (HI2.out.below ((Below.refl w9.heap.size w9).alloc (Nat.le_refl _) _)).apart hg5 (fun e => by have := own_base HC2.out w4.heap.size e; omega) HF2.out
                      refine ⟨s + 1, vt, by omega, by go_num, hI3, by rw [Hcs.out, List.map_append]; exact hown5, ?_, Below.grown (Hbr2.out.alloc (by omega) _) hg5 (by simp; omega) (fun g hg => by have := own_base HC2.out g hg; omega), by have := hg5.size; simp at this; omega⟩
                      intro j hj g hg e
                      rcases hat5 with h0 | h0
                      · exact HF2.out j hj g hg (h0 ▸ e)
                      · rw [h0] at e
                        have hj2 := HI2.out.len
                        have := own_lt (HI2.out.own j (by omega) hj) g hg
                        injection e with e
                        simp at e
                        omega
                    case measure => simp [intOf]; omega
              · obtain rfl : s = m := by omega
                have hsm' : ¬ (s : Int) < (s : Int) := by omega
                rw [rowsA_all] at HI
                rw [cntA_all] at HC
                have hvm : vs.length = s := HI.out.len.trans (rowsP_len _ _ _ _)
                have Hcl : Hid ((lensP (rowsP q R s (uns l))).length = s) := Lib.hid (by rw [lensP_len, rowsP_len])
                have Hcb : Hid (∀ x ∈ lensP (rowsP q R s (uns l)), 0 ≤ x ∧ x ≤ 60) := Lib.hid (fun x hx => by
                  simp only [lensP, rowsP, List.mem_map, List.mem_range] at hx
                  obtain ⟨r, ⟨a, ha, rfl⟩, rfl⟩ := hx
                  have := rest_len (q := q) (l := uns l) (R := R) (s := a)
                  rw [uns_len, Hn.out] at this
                  unfold restP at this
                  omega)
                have Hsz : Hid (sizesP q (lensP (rowsP q R s (uns l))) = (sizesN q (lensP (rowsP q R s (uns l))) s, 0)) := Lib.hid (by
                  unfold sizesP
                  rw [if_neg (by rw [HG.out.1]; simp), if_neg, Hcl.out]
                  rw [Hcl.out, Hm.out]
                  rintro (h | h)
                  · exact h rfl
                  · rw [List.any_eq_true] at h
                    obtain ⟨x, hx, ho⟩ := h
                    have := Hcb.out x hx
                    simp [outP] at ho
                    omega)
                have HSz : Hid (Calls Try.prog 25 #[.agg #[.slice p.a1 q.ws.length p.c1, .slice p.a2 q.ls.length p.c2, .slice p.a3 q.ss.length p.c3, .int .i64 q.le, .int .i64 q.ra], .slice C1 s cc1] wo (SamplePost wo (sizesN q (lensP (rowsP q R s (uns l))) s, 0))) := Lib.hid (by
                  have := sizesR_any p q C1 cc1 (lensP (rowsP q R s (uns l))) wo (HA.out.below Hbw.out) (Sl.of_own HC.out (by rw [List.length_map]; exact Hcl.out))
                  rw [Hcl.out, Hsz.out] at this
                  exact this)
                have Hzat : Hid (∀ d, d < s → (sizesN q (lensP (rowsP q R s (uns l))) s)[d]? = some (sizeP q d ((restP q (uns l) R d).length : Int))) := Lib.hid (fun d hd => by
                  simp [sizesN, hd, List.getD_eq_getElem?_getD, lensP, rowsP, restP])
                go_upto_region 28 with fail
                clear P2
                have p0 := cell_of_row wo w.heap.size 0 _ _ _ ((Hbw.out.block _ hl).trans Hr.out); have p1 := cell_of_row wo w.heap.size 1 _ _ _ ((Hbw.out.block _ hl).trans Hr.out); have p2 := cell_of_row wo w.heap.size 2 _ _ _ ((Hbw.out.block _ hl).trans Hr.out); have p3 := cell_of_row wo w.heap.size 3 _ _ _ ((Hbw.out.block _ hl).trans Hr.out); have p4 := cell_of_row wo w.heap.size 4 _ _ _ ((Hbw.out.block _ hl).trans Hr.out)
                go_wp2_with fail
                refine HSz.out.mono ?_
                rintro e w10 ⟨vz, rfl, hownz, hb10⟩
                have Hb10 := Lib.hid hb10
                have HIx := Lib.hid (HI.out.below hb10)
                clear p0 p1 p2 p3 p4 HSz HC
                try dsimp only at hownz
                rw [sizesN_len] at hownz
                obtain ⟨zg, zc, rfl, hzb, hzl, _, _, _, _⟩ := own_at hownz (by omega)
                have Hownz := Lib.hid hownz
                have hs10 := hb10.size
                have Hb410 : Hid (Below w4.heap.size w4 w10) := Lib.hid (Hbr.out.trans (hb10.mono (by omega)))
                have Hown10 := Lib.hid (ownsRow_below Hown.out Hb410.out)
                have Hbw10 : Hid (Below wa.heap.size wa w10) := Lib.hid (Hb4w.out.trans (Hb410.out.mono hs4w))
                have hs10a := Hbw10.out.size
                clear hownz hb10
                go_upto_region 31 with fail
                go_wp2_with fail
                go_loopw [13, 20, 21, 22, 23] (fun ov dv _ _ _ wr => ∃ (d : Nat) (O : List (Int × Int)), d ≤ s ∧ dv = .int .i64 (d : Int) ∧ wr.ownsRow wa.heap.size 55 2 ov O.length (pCells O) ∧ IsP O (mapF q (uns l) seed R d) ∧ Below w10.heap.size w10 wr) (fun _ dv _ _ _ _ => s - (intOf dv).toNat)
                case atStart => exact ⟨0, O, Nat.zero_le _, rfl, Hown10.out, HO4.out, Below.refl _ _⟩
                case round =>
                  obtain ⟨d, Od, hd, rfl, hown, hO, hbd⟩ := hrel
                  obtain ⟨wd, rfl⟩ : ∃ wd : World, wd = wr := ⟨_, rfl⟩
                  have Hownd0 := Lib.hid hown
                  have HOd := Lib.hid hO
                  have Hbd := Lib.hid hbd
                  have Hbwd : Hid (Below wa.heap.size wa wd) := Lib.hid (Hbw10.out.trans (hbd.mono hs10a))
                  have hswd := hbd.size
                  clear hown hO hbd
                  have P2 := cell_of_row wd w.heap.size 2 _ _ _ ((Hbwd.out.block _ hl).trans Hr.out)
                  rw [Hm.out] at P2
                  by_cases hds : d < s
                  · have hds' : (d : Int) < (s : Int) := by omega
                    have HId := Lib.hid (HIx.out.below Hbd.out)
                    have hdv : d < vs.length := by omega
                    have hdr : d < (rowsP q R s (uns l)).length := by rw [rowsP_len]; exact hds
                    have cI := HId.out.cell hdv
                    have hwd := HId.out.own d hdr hdv
                    rw [rowsP_at q R s (uns l) hds] at hwd
                    obtain ⟨An, ac, hve, _, _, _⟩ := own_slice hwd
                    rw [hve] at cI hwd
                    have HSn : Hid (Sl wd An ac ((restP q (uns l) R d).map (.int .i64))) := Lib.hid (Sl.of_own hwd (by simp))
                    have hownz := ownsRow_below Hownz.out Hbd.out
                    obtain ⟨hzlt, hzc, -⟩ := own_top hownz (by omega)
                    have cz := hzc d (.int .i64 (sizeP q d ((restP q (uns l) R d).length : Int))) (by rw [List.getElem?_map, Hzat.out d hds]; rfl)
                    have Hdq := Lib.hid (draw_eq Huq.out seed R (s := d) (by rw [Hm.out]; exact hds))
                    have HMF : Hid (mapF q (uns l) seed R (d + 1) = fun x => if x ∈ drawP q (uns l) seed R d then some (d : Int) else mapF q (uns l) seed R d x) := Lib.hid rfl
                    have Hdn0 := Lib.hid (draw_nodup Huq.out seed R (s := d) (by rw [Hm.out]; exact hds)).1
                    have Hdf := Lib.hid (fun x (hx : x ∈ drawP q (uns l) seed R d) => draw_fresh Huq.out seed R (s := d) (by rw [Hm.out]; exact hds) hx)
                    have Hrl60 : Hid ((restP q (uns l) R d).length ≤ 60) := Lib.hid (by
                      have := rest_len (q := q) (l := uns l) (R := R) (s := d)
                      rw [uns_len, Hn.out] at this
                      omega)
                    have hIlt : w4.heap.size < wd.heap.size := by omega
                    have Hlen60 : Hid (∀ (O : List (Int × Int)) (t2 : Nat), IsP O (fun x => if x ∈ (drawP q (uns l) seed R d).take t2 then some (d : Int) else mapF q (uns l) seed R d x) → O.length ≤ 60) := Lib.hid (fun O t2 h => Nat.le_trans (h.len (units_ok Huq.out).2.2.2 (fun x k hx => by
                      try dsimp only at hx
                      split at hx
                      · rename_i hm
                        exact rest_sub.subset (draw_sub Huq.out seed R (by rw [Hm.out]; exact hds) (List.mem_of_mem_take hm))
                      · rw [← HRR.out] at hx
                        exact mapF_mem Huq.out seed (by rw [Hm.out]; exact Nat.le_of_lt hds) hx)) (by rw [Hfl.out]; exact h60))
                    clear hwd hve hzc hownz
                    generalize sizeP q d ((restP q (uns l) R d).length : Int) = sz at *
                    generalize restP q (uns l) R d = row at *
                    have hdl60 := draw_len Huq.out seed R (s := d) (by rw [Hm.out]; exact hds)
                    generalize drawP q (uns l) seed R d = dr at *
                    have HSp : Hid (∀ W, Below wd.heap.size wd W → Calls Try.prog 43 #[.int .u64 (mixI (IntKind.u64.wrap (IntKind.u64.wrap (seed + 1) + (d : Int)))), .slice An row.length ac, .int .i64 sz] W (SamplePost W (dr, 0))) := Lib.hid (fun W hW => by
                      have := sampleR_any (seedK seed d) An ac row sz W (HSn.out.below hW)
                      rw [Hdq.out] at this
                      exact this)
                    have hwd2 : IntKind.u64.wrap (d : Int) = (d : Int) := by unfold IntKind.wrap; simp [IntKind.bits, IntKind.signed]; omega
                    go_upto_region 34 with fail
                    clear P2
                    have cI0 : wd.drew.cell? ⟨w4.heap.size, d, none⟩ = some (.slice An row.length ac) := cI
                    have cz0 : wd.drew.cell? ⟨zg, d, none⟩ = some (.int .i64 sz) := cz
                    go_region_held3 (fun w' => w'.cell? ⟨w4.heap.size, d, none⟩ = some (.slice An row.length ac) ∧ w'.cell? ⟨zg, d, none⟩ = some (.int .i64 sz))
                      (first | with_reducible exact ⟨cI0, cz0⟩ | go_keep | ((repeat' apply And.intro) <;> go_keep))
                      (first
                        | (go_at_call 46
                           refine (mixR_any _ _).mono ?_
                           rintro e w' ⟨rfl, rfl⟩)
                        | (go_at_call 43
                           refine (HSp.out _ (by repeat' (first | with_reducible exact Below.refl _ _ | with_reducible assumption | with_reducible refine below_drewN ?_ _ | with_reducible refine Below.drew ?_ | with_reducible refine Below.alloc ?_ ?_ _ | with_reducible refine Below.setCell ?_ ?_ _ | with_reducible refine Below.trans ?_ (Below.mono (by with_reducible assumption) ?_) | with_reducible refine below_only ?_ (by with_reducible assumption) ?_ ?_ | (simp; done) | (simp; omega) | omega))).mono ?_
                           rintro e w11 ⟨vd, rfl, hownd, hbd⟩
                           have Hb11 : Hid (Below wd.heap.size wd w11) := Lib.hid (show Below wd.heap.size wd w11 from (by have hq := hbd; exact (by repeat' (first | with_reducible exact Below.refl _ _ | with_reducible assumption | with_reducible refine below_drewN ?_ _ | with_reducible refine Below.drew ?_ | with_reducible refine Below.alloc ?_ ?_ _ | with_reducible refine Below.setCell ?_ ?_ _ | with_reducible refine Below.trans ?_ (Below.mono (by with_reducible assumption) ?_) | with_reducible refine below_only ?_ (by with_reducible assumption) ?_ ?_ | (simp; done) | (simp; omega) | omega))))
                           have cI11 := (Hb11.out.cell (p := ⟨w4.heap.size, d, none⟩) hIlt).trans cI
                           have cz11 := (Hb11.out.cell (p := ⟨zg, d, none⟩) hzlt).trans cz
                           try dsimp only at hownd
                           obtain ⟨Dn, dc, rfl, _, _, _⟩ := own_slice hownd
                           have Hownd := Lib.hid hownd
                           clear hbd hownd)
                        | fail)
                    clear HSp cz cz0 cz11 cI cI0 cI11 hwd2 HSn
                    have hs11 := Hb11.out.size
                    have Hown11 := Lib.hid (ownsRow_below Hownd0.out Hb11.out)
                    have Hb1011 : Hid (Below w10.heap.size w10 w11) := Lib.hid (Hbd.out.trans (Hb11.out.mono hswd))
                    obtain ⟨dn, hdn⟩ : ∃ dn, dr.length = dn := ⟨_, rfl⟩
                    have Hdn := Lib.hid hdn
                    rw [hdn] at Hownd hdl60 ⊢
                    have HSd : Hid (Sl w11 Dn dc (dr.map (.int .i64))) := Lib.hid (Sl.of_own Hownd.out (by simp [hdn]))
                    clear hdn
                    go_upto_region 37 with fail
                    go_wp2_with fail
                    go_loopw [13, 23] (fun ov iv wq => ∃ (t2 : Nat) (O2 : List (Int × Int)), t2 ≤ dn ∧ iv = .int .i64 (t2 : Int) ∧ wq.ownsRow wa.heap.size 55 2 ov O2.length (pCells O2) ∧ IsP O2 (fun x => if x ∈ dr.take t2 then some (d : Int) else mapF q (uns l) seed R d x) ∧ Below w11.heap.size w11 wq) (fun _ iv _ => dn - (intOf iv).toNat)
                    case atStart => exact ⟨0, Od, Nat.zero_le _, rfl, Hown11.out, HOd.out.congr (fun x => by simp), Below.refl _ _⟩
                    case round =>
                      obtain ⟨t2, O2, ht2, rfl, hownq, hOq, hbq⟩ := hrel
                      have Hownq := Lib.hid hownq
                      have HOq := Lib.hid hOq
                      have Hbq := Lib.hid hbq
                      have hsq := hbq.size
                      obtain ⟨Oa, oac, rfl, _, _, _⟩ := own_slice hownq
                      clear hownq hOq hbq
                      by_cases htd : t2 < dn
                      · have htd' : (t2 : Int) < (dn : Int) := by omega
                        have htl : t2 < dr.length := by have := Hdn.out; omega
                        obtain ⟨b, off, rfl, hb, cq⟩ := (HSd.out.below Hbq.out).at t2 htl
                        have HO3 := Lib.hid (isP_put htl Hdn0.out Hdf.out HOq.out)
                        have hOl : O2.length ≤ 60 := Hlen60.out O2 t2 HOq.out
                        have HPut : Hid (Calls Try.prog 44 #[.slice Oa O2.length oac, .agg #[.int .i64 dr[t2], .int .i64 (d : Int)]] wr (PicksPost wr (putK O2 (dr[t2], (d : Int))))) := Lib.hid (by
                          obtain ⟨A2, c2, he, h2⟩ := SlK.of_own Hownq.out
                          injection he with e1 e2 e3
                          subst e1 e3
                          exact putK_any Oa O2.length oac O2 (dr[t2], (d : Int)) wr h2 (by omega))
                        generalize putK O2 (dr[t2], (d : Int)) = O3 at *
                        generalize dr[t2] = y at *
                        go_wp2_with fail
                        refine HPut.out.mono ?_
                        rintro e w5 ⟨v5, rfl, hown5, hb5⟩
                        go_wp2
                        go_roundw
                        case rel => exact ⟨t2 + 1, O3, by omega, by go_num, own_rebase hown5 (by omega), HO3.out, Hbq.out.trans (hb5.mono hsq)⟩
                        case measure => simp [intOf]; omega
                      · obtain rfl : t2 = dn := by omega
                        have htd' : ¬ (t2 : Int) < (t2 : Int) := by omega
                        go_wp2
                        go_roundw
                        case rel => exact ⟨d + 1, O2, by omega, by go_num, Hownq.out, by rw [HMF.out]; have := HOq.out; rwa [List.take_of_length_le (by have := Hdn.out; omega)] at this, Hb1011.out.trans (Hbq.out.mono (by omega))⟩
                        case measure => simp [intOf]; omega
                  · obtain rfl : d = s := by omega
                    have hds' : ¬ (d : Int) < (d : Int) := by omega
                    have HRe : Hid (Od = picks (mapF q (uns l) seed R d) (farms (uns l))) := Lib.hid (by
                      have hOe := HOd.out
                      rw [← HRR.out] at hOe ⊢
                      rw [← Hm.out] at hOe ⊢
                      exact isP_choose Huq.out seed hOe)
                    have hres : res = (Od, 0) := by rw [Hv2.out, HRe.out]
                    subst hres
                    obtain ⟨Oa, oac, rfl, _, _, _⟩ := own_slice Hownd0.out
                    go_wp2
                    refine bodyPost_ret (v := .tuple #[.slice Oa Od.length oac, .int .i64 0]) (by simp [results, Try.results28, go_sem, *]) rfl ?_
                    have hwa : w.heap.size ≤ wa.heap.size := by omega
                    exact ⟨_, rfl, own_rebase Hownd0.out hwa, Hba.out.trans (Hbwd.out.mono hwa)⟩
  · have hR : res = ([], uq) := by rw [Hv.out, if_pos hc]
    subst hR
    clear Hv
    go_wp2
    refine bodyPost_ret (v := .tuple #[.slice none 0 0, .int .i64 uq]) (by simp [results, Try.results28, go_sem, *]) rfl ?_
    exact ⟨_, rfl, World.ownsRow_nil _ _ _ _, (have hba := Hba.out.trans (Hb1.out.mono (Nat.le_of_lt hl)); (by repeat' (first | with_reducible exact Below.refl _ _ | with_reducible assumption | with_reducible refine below_drewN ?_ _ | with_reducible refine Below.drew ?_ | with_reducible refine Below.alloc ?_ ?_ _ | with_reducible refine Below.setCell ?_ ?_ _ | with_reducible refine Below.trans ?_ (Below.mono (by with_reducible assumption) ?_) | with_reducible refine below_only ?_ (by with_reducible assumption) ?_ ?_ | (simp; done) | (simp; omega) | omega)))⟩
end Go.Proofs.Ytjmbdfoegnfpnaa
