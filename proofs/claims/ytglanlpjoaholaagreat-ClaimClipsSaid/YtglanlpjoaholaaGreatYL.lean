/- Contracts: Clip (claim), Same (ref13) of equal lines. Plain: lines that are clipped. -/
import Derived.Test.YtglanlpjoaholaaGreatYI
import Derived.Test.YtglanlpjoaholaaGreatYG
import Derived.Test.YtglanlpjoaholaaGreatVs
import Derived.Test.YtglanlpjoaholaaGreatQ
namespace Go.Proofs.YtglanlpjoaholaaGreat
open Go.RowKit Go.Shelf
set_option linter.unusedVariables false
set_option linter.unusedSimpArgs false

def clipsP (r : List R4) : List Ln → List Ln
  | [] => []
  | x :: t => (if (chooseP andB x.rg r).length = 0 then [] else [⟨x.pc, chooseP andB x.rg r, x.cr, x.sch⟩]) ++ clipsP r t
theorem clipsP_app (r : List R4) : ∀ a b : List Ln, clipsP r (a ++ b) = clipsP r a ++ clipsP r b
  | [], b => rfl
  | x :: t, b => by rw [List.cons_append, clipsP, clipsP, clipsP_app r t b, List.append_assoc]
theorem clipsP_snoc (r : List R4) (l : List Ln) (x : Ln) : clipsP r (l ++ [x]) = if (chooseP andB x.rg r).length = 0 then clipsP r l else clipsP r l ++ [⟨x.pc, chooseP andB x.rg r, x.cr, x.sch⟩] := by
  rw [clipsP_app]
  simp only [clipsP, List.append_nil]
  split <;> simp
def bigC (r : List R4) (x : Ln) : Bool := decide (120 < (chooseP andB x.rg r).length)
def clipCP (l : List Ln) (r : List R4) : List Ln × Int := if 20 < l.length then ([], 1) else if validL l && validP r then (if l.any (bigC r) then ([], 1) else (clipsP r l, 0)) else ([], 7)
/-- What Clip hands back. -/
def ClPost (w : World) (res : List Ln × Int) (e : Ending) (w' : World) : Prop :=
  ∃ (O : LL) (A : Option Addr) (c : Nat), e = .returned (.tuple #[.slice A O.length c, .int .i64 res.2]) ∧ lns O = res.1 ∧ LsOwn w' w.heap.size (.slice A O.length c) O ∧ Below w.heap.size w w'
theorem ClPost.nil {w w' : World} {r : Int} (h : Below w.heap.size w w') : ClPost w ([], r) (.returned (.tuple #[.slice none 0 0, .int .i64 r])) w' := ⟨[], none, 0, rfl, rfl, LsOwn.nil _ _, h⟩
set_option maxHeartbeats 4000000 in
set_option maxRecDepth 100000 in
theorem clipC_any (A : Option Addr) (n c : Nat) (l : LL) (B : Option Addr) (m d : Nat) (r : List R4) (w : World) (hL : SlL w A n c l) (hB : SlR w B m d r) :
    Calls Tryz.prog 21 #[.slice A n c, .agg #[.slice B m d]] w (ClPost w (clipCP (lns l) r)) := by
  obtain ⟨i2, hi2, hi2z, hl1, hl2⟩ := info_parts Tryz.infoLine
  have hx := hL.len
  have hxb := hB.len
  have Hln : Hid ((lns l).length = n) := Lib.hid (by rw [lns_len]; exact hx)
  have HL := Lib.hid hL
  have HB := Lib.hid hB
  have Hres : Hid (clipCP (lns l) r = if 20 < (lns l).length then ([], 1) else if validL (lns l) && validP r then (if (lns l).any (bigC r) then ([], 1) else (clipsP r (lns l), 0)) else ([], 7)) := Lib.hid rfl
  rw [Hln.out] at Hres
  generalize clipCP (lns l) r = res at *
  clear hL hB
  go_enter Tryz.func21, Tryz.ntmps21
  go_upto_region 1 with fail
  obtain ⟨wa, hwa⟩ : ∃ wa : World, wa = w.alloc (.cells #[.slice B m d] 33) := ⟨_, rfl⟩
  rw [← hwa]
  have HE : Hid (wa.heap[w.heap.size]? = some (.cells #[.slice B m d] 33 (0, 0))) := Lib.hid (by rw [hwa]; exact heap_alloc_new w _)
  have Hba : Hid (Below w.heap.size w wa) := Lib.hid (by rw [hwa]; exact (by repeat' (first | with_reducible exact Below.refl _ _ | with_reducible refine below_drewN ?_ _ | with_reducible refine Below.drew ?_ | with_reducible refine Below.alloc ?_ ?_ _ | with_reducible refine Below.setCell ?_ ?_ _ | with_reducible refine Below.trans ?_ (Below.mono (by with_reducible assumption) ?_) | (simp; done) | (simp; omega) | omega)))
  have hlE : w.heap.size < wa.heap.size := by rw [hwa]; simp
  have hEw : w.heap.size ≤ wa.heap.size := Nat.le_of_lt hlE
  have HLa := Lib.hid (HL.out.below Hba.out)
  have HBa := Lib.hid (HB.out.below Hba.out)
  clear hwa HL HB
  obtain ⟨E, hE⟩ : ∃ E, w.heap.size = E := ⟨_, rfl⟩
  rw [hE] at HE hlE ⊢
  have HEe : Hid (w.heap.size = E) := Lib.hid hE
  clear hE
  have e0 := cell_of_row wa E 0 _ _ _ HE.out
  by_cases h1 : 20 < n
  · have h1' : (20 : Int) < (n : Int) := by omega
    have He : Hid (res = ([], 1)) := Lib.hid (by rw [Hres.out, if_pos h1])
    clear Hres
    go_wp2
    refine bodyPost_ret (v := .tuple #[.slice none 0 0, .int .i64 1]) (by simp [results, Tryz.results21, go_sem, *]) rfl ?_
    rw [He.out]
    exact ClPost.nil Hba.out
  have h1' : ¬ (20 : Int) < (n : Int) := by omega
  rw [if_neg h1] at Hres
  have HRg := Lib.hid (regionsC_any wa (wa.alloc (.cells #[.slice B m d] 33)) ((Below.refl _ _).alloc (Nat.le_refl _) _) (.slice (some ⟨wa.heap.size, 0, none⟩) 1 1) [(r, ⟨B, d⟩)] (own_lit wa _ 1 1 _ _ (by simp [rgCells, rgC, hxb]) rfl (by unfold maxLen; omega)) (fun x hx => by rw [List.mem_singleton] at hx; subst hx; dsimp only; rw [hxb]; exact HBa.out) A n c l HLa.out (by omega) (by simp))
  rw [List.all_append, validL_regs, List.all_cons, List.all_nil, Bool.and_true, Bool.and_comm] at HRg
  dsimp only at HRg
  cases hv : validL (lns l) && validP r with
  | false =>
    rw [hv] at HRg Hres
    have He : Hid (res = ([], 7)) := Lib.hid (by rw [Hres.out]; rfl)
    clear hv Hres
    go_wp2_with (first
      | (go_at_call 37
         refine HRg.out.mono ?_
         rintro e w1 ⟨rfl, hb1⟩
         have Hb1 := Lib.hid (Hba.out.trans (hb1.mono (by omega)))
         clear hb1)
      | fail)
    refine bodyPost_ret (v := .tuple #[.slice none 0 0, .int .i64 7]) (by simp [results, Tryz.results21, go_sem, *]) rfl ?_
    rw [He.out]
    exact ClPost.nil Hb1.out
  | true =>
    rw [hv] at HRg Hres
    rw [Bool.and_eq_true] at hv
    simp only [if_true] at HRg Hres
    have Hv := Lib.hid hv
    clear hv
    have hn20 : n ≤ 20 := by omega
    go_wp2_with (first
      | (go_at_call 37
         refine HRg.out.mono ?_
         rintro e w1 ⟨rfl, hb1⟩
         have Hb1 := Lib.hid hb1
         have hs1 := hb1.size
         clear hb1 HRg)
      | fail)
    go_loopw [7, 9, 10, 11, 24] (fun v _ _ _ iv wr => ∃ (k : Nat) (O : LL), k ≤ n ∧ iv = .int .i64 (k : Int) ∧ (lns (l.take k)).any (bigC r) = false ∧ lns O = clipsP r (lns (l.take k)) ∧ O.length ≤ k ∧ LsOwn wr wa.heap.size v O ∧ Below wa.heap.size wa wr) (fun _ _ _ _ iv _ => n - (intOf iv).toNat)
    case atStart => exact ⟨0, [], Nat.zero_le _, rfl, rfl, rfl, Nat.zero_le _, LsOwn.nil _ _, Hb1.out⟩
    case round =>
      obtain ⟨k, O, hk, rfl, hany, hO, hOk, hown, hbw⟩ := hrel
      have Hbw := Lib.hid hbw
      have hsw := hbw.size
      obtain ⟨OA, oc, rfl, -, -, -⟩ := own_slice hown.o
      have Hown := Lib.hid hown
      have Hany := Lib.hid hany
      have HO := Lib.hid hO
      have er := (hbw.cell (p := ⟨E, 0, none⟩) hlE).trans e0
      clear hown hbw hany hO
      by_cases hkn : k < n
      · have hkn' : (k : Int) < (n : Int) := by omega
        have hkl : k < l.length := by omega
        obtain ⟨b2, o2, rfl, hb2, g0, g1, g2, g3, hS⟩ := (HLa.out.below Hbw.out).at k hkl
        have HS := Lib.hid hS
        have hvy := validL_at Hv.out.1 (List.mem_map_of_mem (List.getElem_mem hkl) : l[k].1 ∈ lns l)
        have Hts := Lib.hid (lns_take hkl)
        have HAt := Lib.hid (fun h : bigC r l[k].1 = true => (List.any_eq_true.2 ⟨l[k].1, List.mem_map_of_mem (List.getElem_mem hkl), h⟩ : (lns l).any (bigC r) = true))
        clear hS
        generalize l[k] = y at *
        obtain ⟨⟨ypc, yrg, ycr, ysch⟩, ⟨ya, yc⟩⟩ := y
        dsimp only at *
        have hcm : combineP andB yrg r = if 120 < (chooseP andB yrg r).length then ([], 1) else (chooseP andB yrg r, 0) := by
          unfold combineP
          rw [hvy, Hv.out.2]
          rfl
        have HBo := Lib.hid (fun W (hW : Below wr.heap.size wr W) => both_any ya B yrg.length yc m d yrg r W (HS.out.below hW) ((HBa.out.below Hbw.out).below hW))
        rw [hcm] at HBo
        have hrow := heap_alloc_new wr (.cells #[.int .i64 ypc, .slice ya yrg.length yc, .int .i64 ycr, .int .i64 ysch] 38)
        have Hbb : Hid (Below wr.heap.size wr (wr.alloc (.cells #[.int .i64 ypc, .slice ya yrg.length yc, .int .i64 ycr, .int .i64 ysch] 38))) := Lib.hid (by repeat' (first | with_reducible exact Below.refl _ _ | with_reducible refine below_drewN ?_ _ | with_reducible refine Below.drew ?_ | with_reducible refine Below.alloc ?_ ?_ _ | with_reducible refine Below.setCell ?_ ?_ _ | with_reducible refine Below.trans ?_ (Below.mono (by with_reducible assumption) ?_) | (simp; done) | (simp; omega) | omega))
        have hlb : wr.heap.size < (wr.alloc (.cells #[.int .i64 ypc, .slice ya yrg.length yc, .int .i64 ycr, .int .i64 ysch] 38)).heap.size := by simp
        have hEr : E < wr.heap.size := by omega
        clear hcm hvy
        go_upto_region 10 with fail
        obtain ⟨T, hT⟩ : ∃ T, wr.heap.size = T := ⟨_, rfl⟩
        rw [hT] at hrow hlb hEr ⊢
        have HTe : Hid (wr.heap.size = T) := Lib.hid hT
        have hTle : wr.heap.size ≤ T := Nat.le_of_eq hT
        generalize wr.alloc (.cells #[.int .i64 ypc, .slice ya yrg.length yc, .int .i64 ycr, .int .i64 ysch] 38) = wb at *
        have a1 := cell_of_row wb T 1 _ _ _ hrow
        have eb := (Hbb.out.cell (p := ⟨E, 0, none⟩) (by show E < _; omega)).trans er
        have Hrow := Lib.hid hrow
        clear hrow g0 g1 g2 g3 hT er
        have hsb : wr.heap.size ≤ wb.heap.size := by omega
        by_cases hbg : 120 < (chooseP andB yrg r).length
        · have He : Hid (res = ([], 1)) := Lib.hid (by
            have h := HAt.out (decide_eq_true hbg)
            rw [Hres.out, h]; rfl)
          rw [if_pos hbg] at HBo
          clear Hres HAt Hts
          go_wp2_with (first
            | (go_at_call 54
               refine (HBo.out _ Hbb.out).mono ?_
               rintro e w5 ⟨v5, rfl, hown5, hb5⟩
               dsimp only at hown5 ⊢
               obtain ⟨D, dc, rfl, -⟩ := SlR.of_own hown5
               have Hb5 := Lib.hid hb5
               have hs5 := hb5.size
               clear hown5 hb5)
            | fail)
          refine bodyPost_ret (v := .tuple #[.slice none 0 0, .int .i64 1]) (by simp [results, Tryz.results21, go_sem, *]) rfl ?_
          rw [He.out]
          exact ClPost.nil (Hba.out.trans ((Hbw.out.trans ((Hbb.out.trans ((Hb5.out.alloc (by omega) _).mono hsb)).mono hsw)).mono (by omega)))
        · have Hany2 : Hid ((lns (l.take (k + 1))).any (bigC r) = false) := Lib.hid (by
            rw [Hts.out, List.any_append, Hany.out, List.any_cons, List.any_nil]
            simp only [bigC, Bool.false_or, Bool.or_false]
            exact decide_eq_false hbg)
          have HOn : Hid (clipsP r (lns (l.take (k + 1))) = if (chooseP andB yrg r).length = 0 then lns O else lns O ++ [⟨ypc, chooseP andB yrg r, ycr, ysch⟩]) := Lib.hid (by rw [Hts.out, clipsP_snoc, HO.out])
          rw [if_neg hbg] at HBo
          clear HAt Hts Hany HO
          obtain ⟨cl, hcl⟩ : ∃ cl, chooseP andB yrg r = cl := ⟨_, rfl⟩
          rw [hcl] at HBo HOn hbg
          clear hcl
          go_upto_region 11 with (first
            | (go_at_call 54
               refine (HBo.out _ Hbb.out).mono ?_
               rintro e w5 ⟨v5, rfl, hown5, hb5⟩
               dsimp only at hown5 ⊢
               obtain ⟨D, dc, rfl, -⟩ := SlR.of_own hown5
               have Hown5 := Lib.hid hown5
               have Hb5 := Lib.hid hb5
               have hs5 := hb5.size
               clear hown5 hb5)
            | fail)
          obtain ⟨w6, hw6⟩ : ∃ w6 : World, w6 = w5.alloc (.cells #[.slice D cl.length dc] 33) := ⟨_, rfl⟩
          rw [← hw6]
          have HZ : Hid (w6.heap[w5.heap.size]? = some (.cells #[.slice D cl.length dc] 33 (0, 0))) := Lib.hid (by rw [hw6]; exact heap_alloc_new w5 _)
          have Hb6 : Hid (Below wb.heap.size wb w6) := Lib.hid (by rw [hw6]; exact Hb5.out.alloc hs5 _)
          have Hown6 := Lib.hid (own_keep Hown5.out (w' := w6) (fun b hb _ => by rw [hw6]; exact Below.heap_alloc _ _ _ hb))
          have hlZ : w5.heap.size < w6.heap.size := by rw [hw6]; simp
          obtain ⟨Z, hZ⟩ : ∃ Z, w5.heap.size = Z := ⟨_, rfl⟩
          rw [hZ] at HZ hlZ hs5 ⊢
          clear hw6 hZ Hown5 Hb5
          have hs6 := Hb6.out.size
          have z0 := cell_of_row w6 Z 0 _ _ _ HZ.out
          have hrow6 := (Hb6.out.block T hlb).trans Hrow.out
          have t1 := cell_of_row w6 T 1 _ _ _ hrow6
          have f1 := frozen_of_row w6 T 1 _ _ hrow6
          have HbT : Hid (Below wr.heap.size wr w6) := Lib.hid (Hbb.out.trans (Hb6.out.mono hsb))
          have Hrow7 := Lib.hid (heap_setCell_same w6 T 1 _ _ (.slice D cl.length dc) hrow6)
          clear hrow6 a1 eb Hrow
          by_cases hl0 : 0 < cl.length
          · have hl0' : (0 : Int) < (cl.length : Int) := by omega
            have hlne : ¬ cl.length = 0 := by omega
            rw [if_neg hlne] at HOn
            go_upto_region 15 with fail
            obtain ⟨w7, hw7⟩ : ∃ w7 : World, w7 = w6.setCell ⟨T, 1, none⟩ (.slice D cl.length dc) := ⟨_, rfl⟩
            rw [← hw7] at Hrow7 ⊢
            have Hb7 : Hid (Below wr.heap.size wr w7) := Lib.hid (by rw [hw7]; exact HbT.out.setCell (by show wr.heap.size ≤ T; have := HTe.out; omega) _)
            have hlow := own_base Hown6.out
            have hlt6 := own_lt Hown6.out
            have Hown7 : Hid (w7.ownsRow wb.heap.size 64 4 (.slice D cl.length dc) cl.length (rCells cl)) := Lib.hid (by rw [hw7]; exact own_other Hown6.out (only_setCell (g := T) (World.grownBy.refl _ _) (.inl rfl) _) (fun k hk e => by injection e with e; have := hlow k hk; omega))
            have hltO := own_lt Hown.out.o
            have HAP : Hid (∀ q, (Value.slice OA O.length oc).ownBlock = some q → (Value.slice D cl.length dc).ownBlock ≠ some q) := Lib.hid (fun q hq e => by have h1 := hltO q hq; have h2 := hlow q e; omega)
            have HO7 := Lib.hid (Hown.out.below Hb7.out)
            have hs7 := Hb7.out.size
            clear hlow hlt6 hltO hw7 Hown6
            have b0 := cell_of_row w7 T 0 _ _ _ Hrow7.out
            have b1 := cell_of_row w7 T 1 _ _ _ Hrow7.out
            have b2' := cell_of_row w7 T 2 _ _ _ Hrow7.out
            have b3 := cell_of_row w7 T 3 _ _ _ Hrow7.out
            go_wp2_with (first
              | (at_builtin
                 (go_loud (refine wpList_append_any _ rfl (.tmp 44) (.tmp 46) _ rfl wa.heap.size 38 i2 _ 4 48 Tryz.underlying25 hi2 hi2z hl1 hl2 rfl (by omega) _ O.length (lnCells O) rfl (HO7.out.o.alloc _) _ _ 1 1 [.int .i64 ypc, .slice D cl.length dc, .int .i64 ycr, .int .i64 ysch] rfl ⟨rfl, fun _ => ⟨_, rfl, Nat.lt_succ_self _, fun j u hu => (by exact news_any _ _ _ j u hu)⟩⟩ (by simp [Value.oneCell']) (by simp only [maxLen]; omega) (by omega) (by simp; omega) ?_))
                 intro v10 w10 hown10 hg10 hat10)
              | fail)
            go_roundw
            case rel =>
              have hbO := own_base Hown.out.o
              refine ⟨k + 1, O ++ [(⟨ypc, cl, ycr, ysch⟩, ⟨D, dc⟩)], by omega, by go_num, Hany2.out, ?_, by simp; omega, ?_, ?_⟩
              · rw [HOn.out]; simp [lns]
              · exact LsOwn.push HO7.out (⟨ypc, cl, ycr, ysch⟩, ⟨D, dc⟩) (own_rebase Hown7.out (by omega)) HAP.out ((Below.refl _ _).alloc (Nat.le_refl _) _) hg10 hown10 hat10
              · exact Below.grown ((Hbw.out.trans (Hb7.out.mono hsw)).alloc (by omega) _) hg10 (by simp; omega) hbO
            case measure => simp [intOf]; omega
          · have hl0' : ¬ (0 : Int) < (cl.length : Int) := by omega
            rw [if_pos (by omega)] at HOn
            go_wp2
            go_roundw
            case rel => exact ⟨k + 1, O, by omega, by go_num, Hany2.out, HOn.out.symm, by omega, Hown.out.below HbT.out, Hbw.out.trans (HbT.out.mono hsw)⟩
            case measure => simp [intOf]; omega
      · obtain rfl : k = n := by omega
        have hkn' : ¬ (k : Int) < (k : Int) := by omega
        have hfull : l.take k = l := List.take_of_length_le (by omega)
        rw [hfull] at Hany HO
        have He : Hid (res = (lns O, 0)) := Lib.hid (by rw [Hres.out, Hany.out, HO.out]; rfl)
        clear hfull
        go_wp2
        refine bodyPost_ret (v := .tuple #[.slice OA O.length oc, .int .i64 0]) (by simp [results, Tryz.results21, go_sem, *]) rfl ?_
        rw [He.out]
        exact ⟨O, OA, oc, rfl, rfl, Hown.out.rebase (by have := HEe.out; omega), Hba.out.trans (Hbw.out.mono (by omega))⟩

set_option maxHeartbeats 4000000 in
set_option maxRecDepth 100000 in
theorem sameL_any (A : Option Addr) (n c : Nat) (l : LL) (B : Option Addr) (m d : Nat) (k : LL) (w : World) (hA : SlL w A n c l) (hB : SlL w B m d k) (h : lns l = lns k) :
    Calls Tryz.prog 22 #[.slice A n c, .slice B m d] w fun e w' => e = .returned (.bool true) ∧ Below w.heap.size w w' := by
  have hx := hA.len
  have hy := hB.len
  have hm63 : n ≤ 9223372036854775807 := Nat.le_trans (Nat.le_trans hA.cap hA.top) (by unfold maxLen; omega)
  obtain rfl : m = n := by have := congrArg List.length h; rw [lns_len, lns_len] at this; omega
  have HA := Lib.hid hA
  have HB := Lib.hid hB
  have Hx := Lib.hid hx
  have Hy := Lib.hid hy
  have Hlk : Hid (∀ (i : Nat) (h1 : i < l.length) (h2 : i < k.length), l[i].1 = k[i].1) := Lib.hid (fun i h1 h2 => by
    have e1 : (lns l)[i]'(by rw [lns_len]; exact h1) = l[i].1 := by simp [lns]
    have e2 : (lns k)[i]'(by rw [lns_len]; exact h2) = k[i].1 := by simp [lns]
    rw [← e1, ← e2]
    simp only [h])
  clear hA hB h hx hy
  go_enter Tryz.func22, Tryz.ntmps22
  go_wp2_with fail
  go_loopw [5, 13] (fun _ iv wr => ∃ i : Nat, i ≤ m ∧ iv = .int .i64 (i : Int) ∧ Below w.heap.size w wr) (fun _ iv _ => m - (intOf iv).toNat)
  case atStart => exact ⟨0, Nat.zero_le _, rfl, Below.refl _ _⟩
  case round =>
    obtain ⟨i, hi, rfl, hbw⟩ := hrel
    have Hbw := Lib.hid hbw
    have hsw := hbw.size
    clear hbw
    by_cases him : i < m
    · have him' : (i : Int) < (m : Int) := by omega
      have h1 : i < l.length := by have := Hx.out; omega
      have h2 : i < k.length := by have := Hy.out; omega
      obtain ⟨b1, o1, rfl, hb1, g0, g1, g2, g3, hS1⟩ := (HA.out.below Hbw.out).at i h1
      obtain ⟨b2, o2, rfl, hb2, k0, k1, k2, k3, hS2⟩ := (HB.out.below Hbw.out).at i h2
      have hyz := Hlk.out i h1 h2
      have HS1 := Lib.hid hS1
      have HS2 := Lib.hid hS2
      clear hS1 hS2
      generalize l[i] = y at *
      generalize k[i] = z at *
      obtain ⟨⟨ypc, yrg, ycr, ysch⟩, ⟨ya, yc⟩⟩ := y
      obtain ⟨z1, ⟨za, zc⟩⟩ := z
      dsimp only at *
      subst hyz
      dsimp only at *
      have HSm := Lib.hid (fun W (hW : Below wr.heap.size wr W) => sameRef_any ya za yrg.length yc yrg.length zc yrg yrg W (HS1.out.below hW) (HS2.out.below hW))
      rw [decide_eq_true rfl] at HSm
      go_upto_region 6 with fail
      refine wp_region_below (W := wr) wr.heap.size (Nat.le_refl _) (by kernel_rfl) (by kernel_rfl) ?_
      intro I _ F hFc hFb hFs
      repeat (go_big_quiet_step ((go_at_call 18; with_reducible exact class_call hFb hFs (Nat.le_refl _) (HSm.out _ (hFb _)))))
      refine wpQuiet_nil ?_
      rintro _ ⟨iq, rfl⟩
      go_wp2
      go_roundw
      case rel => exact ⟨i + 1, by omega, by go_num, Hbw.out.trans ((hFb iq).mono hsw)⟩
      case measure => simp [intOf]; omega
    · obtain rfl : i = m := by omega
      have him' : ¬ (i : Int) < (i : Int) := by omega
      go_wp2
      go_ret
      exact ⟨rfl, Hbw.out⟩

theorem InS.mono {s t : Int} {l : List R4} (h : InS s l) (hs : s ≤ t) : InS t l := fun q hq => by have := h q hq; omega
/-- What a line keeps within a region. -/
theorem clip_one {R : List (List R4)} {nc : Nat} {x : Ln} {a : List R4} (hR : PcOk R) (h : LnOk R nc x) (ha : InS 30 a) :
    (∀ u v, inL (chooseP andB x.rg a) u v = (inL x.rg u v && inL a u v)) ∧ Reg 30 120 (chooseP andB x.rg a) ∧ ((chooseP andB x.rg a).length ≠ 0 → LnOk R nc ⟨x.pc, chooseP andB x.rg a, x.cr, x.sch⟩) ∧ chooseP andB (chooseP andB x.rg a) a = chooseP andB x.rg a := by
  have hm : ∀ u v, inL (chooseP andB x.rg a) u v = (inL x.rg u v && inL a u v) := fun u v => choose_mem andB rfl h.reg.ins.pos ha.pos u v
  have hr0 := choose_reg andB rfl 30 h.reg.ins ha
  obtain ⟨p, hp, hpc, hin⟩ := h.pc
  have hbx : ∀ u v, inL (chooseP andB x.rg a) u v = true → 10 * (p : Int) ≤ u ∧ u < 10 * (p : Int) + 9 ∧ 0 ≤ v ∧ v < 9 := fun u v huv => by
    rw [hm, Bool.and_eq_true] at huv
    exact (hR.at' p hp).in u v (hin u v huv.1)
  have hl : (chooseP andB x.rg a).length ≤ 9 * (((List.range 10).map fun j : Nat => 10 * (p : Int) + (j : Int)).length / 2) := by
    refine canon_len hr0.can (X := (List.range 10).map fun j : Nat => 10 * (p : Int) + (j : Int)) (fun y u hu => ?_) 9 (fun u v huv => by have := hbx u v huv; omega)
    have hr : 10 * (p : Int) ≤ u ∧ u ≤ 10 * (p : Int) + 9 := by
      dsimp only at hu
      cases h1 : inL (chooseP andB x.rg a) (u - 1) y with
      | true => have := hbx _ _ h1; omega
      | false =>
        cases h2 : inL (chooseP andB x.rg a) u y with
        | true => have := hbx _ _ h2; omega
        | false => rw [h1, h2] at hu; exact absurd rfl hu
    exact List.mem_map.2 ⟨(u - 10 * (p : Int)).toNat, List.mem_range.2 (by omega), by omega⟩
  have hreg : Reg 30 120 (chooseP andB x.rg a) := ⟨hr0.ins, hr0.canon, by rw [List.length_map, List.length_range] at hl; omega⟩
  refine ⟨hm, hreg, fun hne => ⟨⟨p, hp, hpc, fun u v huv => ?_⟩, hreg, fun e => hne (by dsimp only at e; rw [e]; rfl), h.cr, h.sch⟩, ?_⟩
  · dsimp only at huv
    rw [hm, Bool.and_eq_true] at huv
    exact hin u v huv.1
  · refine choose_is rfl hr0.ins.pos hr0.canon hr0.ins.pos ha.pos fun u v => ?_
    rw [hm]
    show ((inL x.rg u v && inL a u v) && inL a u v) = _
    cases inL x.rg u v <;> cases inL a u v <;> rfl
theorem mem_clips {a : List R4} {y : Ln} : ∀ {L : List Ln}, y ∈ clipsP a L → ∃ x ∈ L, (chooseP andB x.rg a).length ≠ 0 ∧ y = ⟨x.pc, chooseP andB x.rg a, x.cr, x.sch⟩
  | [], h => by simp [clipsP] at h
  | x :: t, h => by
    rw [clipsP] at h
    rcases List.mem_append.1 h with h | h
    · split at h
      · simp at h
      · rename_i hn
        rw [List.mem_singleton] at h
        exact ⟨x, List.mem_cons_self, hn, h⟩
    · obtain ⟨z, hz, h1, h2⟩ := mem_clips h
      exact ⟨z, List.mem_cons_of_mem _ hz, h1, h2⟩
theorem clips_same {a : List R4} : ∀ {M : List Ln}, (∀ x ∈ M, chooseP andB x.rg a = x.rg ∧ x.rg.length ≠ 0) → clipsP a M = M
  | [], _ => rfl
  | x :: t, h => by
    obtain ⟨h1, h2⟩ := h x List.mem_cons_self
    rw [clipsP, h1, if_neg h2, clips_same fun y hy => h y (List.mem_cons_of_mem _ hy)]
    rfl
theorem clips_len (a : List R4) : ∀ L : List Ln, (clipsP a L).length ≤ L.length
  | [] => Nat.le_refl _
  | x :: t => by
    have := clips_len a t
    rw [clipsP, List.length_append, List.length_cons]
    split <;> simp <;> omega
theorem clips_dis {a : List R4} {s : Int} (ha : InS s a) : ∀ {L : List Ln}, (∀ x ∈ L, InS s x.rg) → (L.Pairwise fun a b => ∀ u v, inL a.rg u v = true → inL b.rg u v = false) → (clipsP a L).Pairwise fun a b => ∀ u v, inL a.rg u v = true → inL b.rg u v = false
  | [], _, _ => List.Pairwise.nil
  | x :: t, h, hp => by
    obtain ⟨h1, h2⟩ := List.pairwise_cons.1 hp
    have ih := clips_dis ha (fun y hy => h y (List.mem_cons_of_mem _ hy)) h2
    rw [clipsP]
    split
    · exact ih
    · rw [List.singleton_append, List.pairwise_cons]
      refine ⟨fun y hy u v huv => ?_, ih⟩
      obtain ⟨z, hz, -, rfl⟩ := mem_clips hy
      dsimp only at huv ⊢
      rw [choose_mem andB rfl (h x List.mem_cons_self).pos ha.pos] at huv
      rw [choose_mem andB rfl (h z (List.mem_cons_of_mem _ hz)).pos ha.pos]
      unfold andB at huv ⊢
      rw [Bool.and_eq_true] at huv
      rw [h1 z hz u v huv.1]
      rfl
theorem apart_of {R : List (List R4)} {nc : Nat} {L : LL} (hok : ∀ x ∈ lns L, LnOk R nc x) (hdis : (lns L).Pairwise fun a b => ∀ u v, inL a.rg u v = true → inL b.rg u v = false) (i : Nat) (hi : i < L.length) : (L.take i).any (fun y => meetsP L[i].1.rg y.1.rg) = false := by
  rw [List.any_eq_false]
  intro y hy
  obtain ⟨j, hj, rfl⟩ := List.mem_take_iff_getElem.1 hy
  have hji : j < i := by omega
  have hjl : j < L.length := by omega
  have hd := List.pairwise_iff_getElem.1 hdis j i (by rw [lns_len]; exact hjl) (by rw [lns_len]; exact hi) hji
  have e1 : (lns L)[j]'(by rw [lns_len]; exact hjl) = L[j].1 := by simp [lns]
  have e2 : (lns L)[i]'(by rw [lns_len]; exact hi) = L[i].1 := by simp [lns]
  rw [e1, e2] at hd
  have h1 := hok _ (List.mem_map_of_mem (List.getElem_mem hi))
  have h2 := hok _ (List.mem_map_of_mem (List.getElem_mem hjl))
  rw [meets_not h1.reg.ins h2.reg.ins (fun u v huv => by
    cases hc : inL L[j].1.rg u v with
    | false => rfl
    | true => rw [hd u v hc] at huv; cases huv)]
  simp
/-- Lines that are clipped. -/
theorem clips_law {R : List (List R4)} {nc k : Nat} {L : List Ln} {a : List R4} {m : Nat} (hR : PcOk R) (h : LsOk R nc k L) (hk : k ≤ 4) (ha : Reg 20 m a) (hm : m ≤ 120) :
    clipCP L a = (clipsP a L, 0) ∧ clipCP (clipsP a L) a = (clipsP a L, 0) ∧ (∀ x ∈ clipsP a L, LnOk R nc x) ∧ (clipsP a L).Pairwise (fun a b => ∀ u v, inL a.rg u v = true → inL b.rg u v = false) ∧ (clipsP a L).length ≤ 4 ∧ ∀ x ∈ L, combineP andB x.rg a = (chooseP andB x.rg a, 0) := by
  have ha3 : InS 30 a := ha.ins.mono (by omega)
  have hva := ha.valid (by omega) hm
  have hL := h.len
  have hcl := clips_len a L
  have hok : ∀ x ∈ clipsP a L, LnOk R nc x := fun y hy => by
    obtain ⟨x, hx, hne, rfl⟩ := mem_clips hy
    exact (clip_one hR (h.ok x hx) ha3).2.2.1 hne
  have hval : ∀ M : List Ln, (∀ x ∈ M, LnOk R nc x) → M.length ≤ 4 → clipCP M a = (clipsP a M, 0) := fun M hM hl => by
    unfold clipCP
    rw [if_neg (by omega), show validL M = true from List.all_eq_true.2 fun x hx => (hM x hx).reg.valid (by omega) (by omega), hva, show M.any (bigC a) = false from List.any_eq_false.2 fun x hx => by
      have := (clip_one hR (hM x hx) ha3).2.1.len
      unfold bigC
      rw [decide_eq_true_eq]
      omega]
    rfl
  refine ⟨hval L h.ok (by omega), ?_, hok, clips_dis ha3 (fun x hx => (h.ok x hx).reg.ins) h.dis, by omega, fun x hx => ?_⟩
  · rw [hval _ hok (by omega), clips_same fun y hy => ?_]
    obtain ⟨x, hx, hne, rfl⟩ := mem_clips hy
    exact ⟨(clip_one hR (h.ok x hx) ha3).2.2.2, hne⟩
  · unfold combineP
    rw [(h.ok x hx).reg.valid (by omega) (by omega), hva, Bool.and_self, if_pos rfl, if_neg (by have := (clip_one hR (h.ok x hx) ha3).2.1.len; omega)]
end Go.Proofs.YtglanlpjoaholaaGreat
