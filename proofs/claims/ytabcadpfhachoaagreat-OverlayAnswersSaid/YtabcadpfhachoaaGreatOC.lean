/- Contract: the tape's Regions. -/
/- Plain: the chapter's example of faces; rows of faces written out; the specification's Same of faces. -/
/- Contract: the law's awake (law07). -/
/- Plain: the regions of law07 and their faces. -/
import Derived.Test.YtabcadpfhachoaaGreatF5
import Derived.Test.YtabcadpfhachoaaGreatYR
import Derived.Test.YtabcadpfhachoaaGreatOA
import Derived.Test.YtabcadpfhachoaaGreatVs
import Derived.Test.YtabcadpfhachoaaGreatR9
import Derived.Test.YtabcadpfhachoaaGreatO1
import Derived.Test.YtabcadpfhachoaaGreatV4
import Derived.Test.YtabcadpfhachoaaGreatT
namespace Go.Proofs.YtabcadpfhachoaaGreat
open Go.RowKit
set_option linter.unusedVariables false
set_option linter.unusedSimpArgs false

def tapeK (r : List Int) (s m : Int) : Nat → List Int
  | 0 => r
  | k + 1 => (mkReg (tapeK r s m k) s m).2
def regK (r : List Int) (s m : Int) (k : Nat) : List R4 := (mkReg (tapeK r s m k) s m).1
def mkRegs (n : Nat) (r : List Int) (s m : Int) : List (List R4) := (List.range n).map (regK r s m)
theorem mkRegs_len (n : Nat) (r : List Int) (s m : Int) : (mkRegs n r s m).length = n := by simp [mkRegs]
def RegsTPost (w : World) (g n : Nat) (r : List Int) (s m : Int) (e : Ending) (w' : World) : Prop :=
  ∃ (v : Value) (l : RL), e = .returned v ∧ RsOwn w' w.heap.size v l ∧ rgs l = mkRegs n r s m ∧ TapeAt w' g (tapeK r s m n) ∧ w.grownBy w' (some g)

set_option maxHeartbeats 2000000 in
set_option maxRecDepth 100000 in
theorem regions_any (g n : Nat) (r : List Int) (side most : Int) (w : World) (ht : TapeAt w g r) (hs : 1 ≤ side ∧ side ≤ 1000) (hm : 0 ≤ most ∧ most ≤ 100) (hn : n ≤ 100) :
    Calls Tryz.prog 6 #[.pointer (some ⟨g, 0, none⟩), .int .i64 (n : Int), .int .i64 side, .int .i64 most] w (RegsTPost w g n r side most) := by
  obtain ⟨i0, hi, hz0, hz1, hz2⟩ := info_parts Tryz.infoRegion
  have hlt := ht.lt
  have Ht := Lib.hid ht
  clear ht
  go_enter Tryz.func6, Tryz.ntmps6
  go_upto_region 3 with fail
  go_loopw [9, 10] (fun out i wr => ∃ (k : Nat) (L : RL), i = .int .i64 (k : Int) ∧ k ≤ n ∧ RsOwn wr w.heap.size out L ∧ rgs L = mkRegs k r side most ∧ TapeAt wr g (tapeK r side most k) ∧ w.grownBy wr (some g)) (fun _ i _ => n - (intOf i).toNat)
  case atStart => exact ⟨0, [], rfl, Nat.zero_le _, RsOwn.nil _ _, rfl, Ht.out, World.grownBy.refl _ _⟩
  case round =>
    obtain ⟨k, L, rfl, hkn, hR, hL, htr, hgr⟩ := hrel
    have hsr := hgr.size
    have HR := Lib.hid hR
    have HL := Lib.hid hL
    have Htr := Lib.hid htr
    have Hgr := Lib.hid hgr
    clear hR hL htr hgr
    have hLl : L.length = k := by have := congrArg List.length HL.out; rw [rgs_len, mkRegs_len] at this; exact this
    have HLl := Lib.hid hLl
    obtain ⟨LA, lc, hLv, _, _, _⟩ := own_slice HR.out.o
    subst hLv
    rw [hLl] at HR ⊢
    clear hLl
    by_cases hlt2 : k < n
    · have hlt2' : (k : Int) < (n : Int) := by omega
      have ekw : IntKind.i64.wrap ((k : Int) + 1) = (k : Int) + 1 := IntWalk.i64_in _ (by omega)
      have Hrc := Lib.hid (region_any g (tapeK r side most k) side most wr Htr.out hs hm)
      go_wp2_with (first
        | (go_at_call 17
           refine Hrc.out.mono ?_
           rintro e w5 ⟨v5, rfl, hown5, ht5, hg5⟩
           obtain ⟨A5, c5, rfl, _, _, _⟩ := own_slice hown5
           have Hown5 := Lib.hid hown5
           have Ht5 := Lib.hid ht5
           have Hg5 := Lib.hid hg5
           have hl5 := hg5.size
           obtain ⟨rg, hrg⟩ : ∃ rg, rg = (mkReg (tapeK r side most k) side most).1 := ⟨_, rfl⟩
           rw [← hrg] at Hown5 ⊢
           have Hrg := Lib.hid hrg
           have HR5 : Hid (RsOwn w5 w.heap.size (.slice LA k lc) L) := Lib.hid (HR.out.only hg5 hlt)
           clear hown5 ht5 hg5 hrg)
        | (at_builtin
           refine wpList_append_any _ rfl (.tmp 16) (.tmp 21) _ rfl w.heap.size 34 i0 _ 1 24 Tryz.underlying25 hi hz0 hz1 hz2 rfl (by omega) _ k (rgCells L) rfl (World.ownsRow.alloc (by have := HR5.out.o; rw [HLl.out] at this; exact this) _) _ _ 1 1 [.slice A5 rg.length c5] rfl ⟨rfl, fun _ => ⟨_, rfl, Nat.lt_succ_self _, fun j u hu => (by exact World.news_of_block (heap_alloc_new w5 (.cells #[.slice A5 rg.length c5] 34)) j u hu)⟩⟩ (by simp [Value.oneCell']) (by simp only [maxLen]; omega) (by omega) (by simp; omega) ?_
           intro v6 w6 hown6 hg6 hat6
           obtain ⟨VA, vc, rfl, _, _, _⟩ := own_slice hown6
           have Hown6 := Lib.hid hown6
           have Hg6 := Lib.hid hg6
           have Hat6 := Lib.hid hat6
           clear hown6 hg6 hat6)
        | fail)
      go_roundw
      case rel =>
        have hwa : Below w5.heap.size w5 (w5.alloc (.cells #[.slice A5 rg.length c5] 34)) := (Below.refl _ _).alloc (Nat.le_refl _) _
        have hob := own_base HR5.out.o
        refine ⟨k + 1, L ++ [(rg, ⟨A5, c5⟩)], rfl, by omega, ?_, ?_, ?_, ?_⟩
        · refine RsOwn.push (v := .slice LA k lc) HR5.out (rg, ⟨A5, c5⟩) (World.ownsRow.alloc (own_rebase Hown5.out hsr) _) ?_ hwa Hg6.out (by rw [HLl.out]; exact Hown6.out) Hat6.out
          intro b hb e
          have h1 := own_lt HR.out.o b hb
          have h2 := own_base Hown5.out b e
          omega
        · show rgs _ = _
          rw [show rgs (L ++ [(rg, ⟨A5, c5⟩)]) = rgs L ++ [rg] by simp [rgs], HL.out, Hrg.out]
          unfold mkRegs
          rw [List.range_succ, List.map_append]
          rfl
        · exact (Ht5.out.alloc _).grown Hg6.out (fun b e => by have := hob b e; omega)
        · exact only_grown (only_alloc (only_trans Hgr.out Hg5.out) _) Hg6.out hob
      case measure => simp [intOf]; omega
    · obtain rfl : k = n := by omega
      go_wp2
      go_ret
      exact ⟨_, L, rfl, HR.out, HL.out, Htr.out, Hgr.out⟩
end Go.Proofs.YtabcadpfhachoaaGreat

namespace Go.Proofs.YtabcadpfhachoaaGreat
open Go.RowKit
set_option linter.unusedVariables false
set_option linter.unusedSimpArgs false

theorem SlG.lit (w : World) (t : TypeId) (cs : Array Value) (l : RL) (n B : Nat) (hB : B = w.heap.size) (hn : l.length = n) (hn1 : n ≤ 1000) (hc : rgCells l = cs.toList) (hf : ∀ x ∈ l, SlR w x.2.a x.1.length x.2.c x.1) : SlG (w.alloc (.cells cs t)) (some ⟨B, 0, none⟩) n n l :=
  ⟨hn, Nat.le_refl _, by unfold maxLen; omega, Lies.new w t cs n _ hc B hB, fun x hx => (hf x hx).alloc _⟩
theorem SlF.lit (w : World) (t : TypeId) (cs : Array Value) (l : FL) (n B : Nat) (hB : B = w.heap.size) (hn : l.length = n) (hn1 : n ≤ 1000) (hc : fcCells l = cs.toList) (hf : ∀ x ∈ l, SlR w x.2.a x.1.rg.length x.2.c x.1.rg) : SlF (w.alloc (.cells cs t)) (some ⟨B, 0, none⟩) n n l :=
  ⟨hn, Nat.le_refl _, by unfold maxLen; omega, Lies.new w t cs n _ hc B hB, fun x hx => (hf x hx).alloc _⟩

theorem asc_eq (l m : List Int) (h1 : m.Pairwise (· < ·)) (h2 : ∀ x ∈ l, x ∈ m) (h3 : ∀ x ∈ m, x ∈ l) : asc l = m :=
  asc_one _ _ (asc_all l).1 h1 fun x => by rw [(asc_all l).2.1]; exact ⟨h2 x, h3 x⟩
theorem rowP_one (q : R4) (y : Int) (h : covers y q = true) : rowP [q] y = [(q.l, q.r, ())] := by
  unfold rowP spansAt
  rw [List.filter_cons_of_pos h]
  simp [sweep]
def exM : List (List R4) := [[⟨0, 0, 2, 1⟩], [⟨1, 0, 3, 1⟩]]
def exF : List Fc := [⟨1, [⟨0, 0, 1, 1⟩]⟩, ⟨2, [⟨2, 0, 3, 1⟩]⟩, ⟨3, [⟨1, 0, 2, 1⟩]⟩]
theorem ex_pieces : piecesP exM = [(1, ⟨0, 0, 1, 1⟩), (3, ⟨1, 0, 2, 1⟩), (2, ⟨2, 0, 3, 1⟩)] := by
  have hc : cutsP exM.flatten = [0, 1] := asc_eq _ _ (by decide) (by decide) (by decide)
  have h1 : rowP [(⟨0, 0, 2, 1⟩ : R4)] 0 = [(0, 2, ())] := rowP_one _ _ (by decide)
  have h2 : rowP [(⟨1, 0, 3, 1⟩ : R4)] 0 = [(1, 3, ())] := rowP_one _ _ (by decide)
  have he : endsP [[(0, 2, ())], [(1, 3, ())]] = [0, 1, 2, 3] := asc_eq _ _ (by decide) (by decide) (by decide)
  have hb : bandPcs exM [0, 1] 0 = [(1, ⟨0, 0, 1, 1⟩), (3, ⟨1, 0, 2, 1⟩), (2, ⟨2, 0, 3, 1⟩)] := by
    unfold bandPcs
    show rowPcs [rowP [(⟨0, 0, 2, 1⟩ : R4)] 0, rowP [(⟨1, 0, 3, 1⟩ : R4)] 0] 0 1 = _
    rw [h1, h2]
    unfold rowPcs
    rw [he]
    decide
  unfold piecesP
  rw [hc]
  show (List.range 1).flatMap _ = _
  rw [show List.range 1 = [0] from rfl, List.flatMap_cons, List.flatMap_nil, List.append_nil, hb]
theorem ex_keys : keysPc (piecesP exM) = [1, 2, 3] := by
  rw [ex_pieces]
  exact asc_eq _ _ (by decide) (by decide) (by decide)
theorem ex_face1 : canonP (ofPc (piecesP exM) 1) = [⟨0, 0, 1, 1⟩] := by
  rw [ex_pieces, canonP_comb _ (by decide)]
  decide
theorem ex_face2 : canonP (ofPc (piecesP exM) 2) = [⟨2, 0, 3, 1⟩] := by
  rw [ex_pieces, canonP_comb _ (by decide)]
  decide
theorem ex_face3 : canonP (ofPc (piecesP exM) 3) = [⟨1, 0, 2, 1⟩] := by
  rw [ex_pieces, canonP_comb _ (by decide)]
  decide
theorem ex_valid : exM.all validP = true := by
  have h1 : validP [(⟨0, 0, 2, 1⟩ : R4)] = true := by
    unfold validP
    rw [canonP_comb _ (by decide)]
    decide
  have h2 : validP [(⟨1, 0, 3, 1⟩ : R4)] = true := by
    unfold validP
    rw [canonP_comb _ (by decide)]
    decide
  simp [exM, h1, h2]
theorem ex_faces : facesP exM = (exF, 0) := by
  have b1 : bigF exM 1 = false := by show decide (120 < (canonP (ofPc (piecesP exM) 1)).length) = _; rw [ex_face1]; rfl
  have b2 : bigF exM 2 = false := by show decide (120 < (canonP (ofPc (piecesP exM) 2)).length) = _; rw [ex_face2]; rfl
  have b3 : bigF exM 3 = false := by show decide (120 < (canonP (ofPc (piecesP exM) 3)).length) = _; rw [ex_face3]; rfl
  have f1 : faceOf exM 1 = ⟨1, [⟨0, 0, 1, 1⟩]⟩ := by show Fc.mk 1 (canonP (ofPc (piecesP exM) 1)) = _; rw [ex_face1]
  have f2 : faceOf exM 2 = ⟨2, [⟨2, 0, 3, 1⟩]⟩ := by show Fc.mk 2 (canonP (ofPc (piecesP exM) 2)) = _; rw [ex_face2]
  have f3 : faceOf exM 3 = ⟨3, [⟨1, 0, 2, 1⟩]⟩ := by show Fc.mk 3 (canonP (ofPc (piecesP exM) 3)) = _; rw [ex_face3]
  rw [facesP_big (by decide) ex_valid, ex_keys]
  simp [b1, b2, b3, f1, f2, f3, exF]

/-- What ref07.Same tells. -/
def sameFP (a b : List Fc) : Bool := decide (a.length = b.length) && (List.range a.length).all fun i => decide ((a.getD i ⟨0, []⟩).set = (b.getD i ⟨0, []⟩).set) && decide ((a.getD i ⟨0, []⟩).rg = (b.getD i ⟨0, []⟩).rg)
theorem sameFP_refl (a : List Fc) : sameFP a a = true := by simp [sameFP]

set_option maxHeartbeats 4000000 in
theorem same07_any (A B : Option Addr) (n c m d : Nat) (a b : FL) (w : World) (hA : SlF w A n c a) (hB : SlF w B m d b) (hn : n ≤ 10000) :
    Calls Tryz.prog 19 #[.slice A n c, .slice B m d] w fun e w' => e = .returned (.bool (sameFP (fcs a) (fcs b))) ∧ Below w.heap.size w w' := by
  have HA := Lib.hid hA
  have HB := Lib.hid hB
  have hal : (fcs a).length = n := by rw [fcs, List.length_map]; exact hA.len
  have hbl : (fcs b).length = m := by rw [fcs, List.length_map]; exact hB.len
  have Hal := Lib.hid hal
  have Hbl := Lib.hid hbl
  have Hres : Hid (sameFP (fcs a) (fcs b) = (decide (n = m) && (List.range n).all fun i => decide (((fcs a).getD i ⟨0, []⟩).set = ((fcs b).getD i ⟨0, []⟩).set) && decide (((fcs a).getD i ⟨0, []⟩).rg = ((fcs b).getD i ⟨0, []⟩).rg))) := Lib.hid (by unfold sameFP; rw [hal, hbl])
  generalize sameFP (fcs a) (fcs b) = res at *
  clear hA hB hal hbl
  go_enter Tryz.func19, Tryz.ntmps19
  by_cases hnm : n = m
  · subst hnm
    go_upto_region 4 with fail
    go_loopw [13] (fun i wr => ∃ j : Nat, j ≤ n ∧ i = .int .i64 (j : Int) ∧ Hid ((List.range j).all (fun i => decide (((fcs a).getD i ⟨0, []⟩).set = ((fcs b).getD i ⟨0, []⟩).set) && decide (((fcs a).getD i ⟨0, []⟩).rg = ((fcs b).getD i ⟨0, []⟩).rg)) = true) ∧ Below w.heap.size w wr) (fun i _ => n - (intOf i).toNat)
    case atStart => exact ⟨0, Nat.zero_le _, rfl, Lib.hid rfl, Below.refl _ _⟩
    case round =>
      obtain ⟨j, hj, rfl, Htk, hbr⟩ := hrel
      have Hbr := Lib.hid hbr
      have hsr := hbr.size
      clear hbr
      by_cases hjn : j < n
      · have hjn' : (j : Int) < (n : Int) := by omega
        have la : j < a.length := by have := HA.out.len; omega
        have lb : j < b.length := by have := HB.out.len; omega
        obtain ⟨b1, o1, rfl, hb1, a0, a1, hSa⟩ := (HA.out.below Hbr.out).at j la
        obtain ⟨b2, o2, rfl, hb2, d0, d1, hSb⟩ := (HB.out.below Hbr.out).at j lb
        have ha : (fcs a).getD j ⟨0, []⟩ = a[j].1 := by simp [fcs, List.getD, List.getElem?_eq_getElem la]
        have hb : (fcs b).getD j ⟨0, []⟩ = b[j].1 := by simp [fcs, List.getD, List.getElem?_eq_getElem lb]
        have Hall : Hid ((List.range n).all (fun i => decide (((fcs a).getD i ⟨0, []⟩).set = ((fcs b).getD i ⟨0, []⟩).set) && decide (((fcs a).getD i ⟨0, []⟩).rg = ((fcs b).getD i ⟨0, []⟩).rg)) = true → (a[j].1.set = b[j].1.set ∧ a[j].1.rg = b[j].1.rg)) := Lib.hid (fun h => by
          have := List.all_eq_true.1 h j (List.mem_range.2 hjn)
          rw [ha, hb] at this
          simpa using this)
        have Hnx : Hid (a[j].1.set = b[j].1.set ∧ a[j].1.rg = b[j].1.rg → (List.range (j + 1)).all (fun i => decide (((fcs a).getD i ⟨0, []⟩).set = ((fcs b).getD i ⟨0, []⟩).set) && decide (((fcs a).getD i ⟨0, []⟩).rg = ((fcs b).getD i ⟨0, []⟩).rg)) = true) := Lib.hid (fun h => by
          rw [List.range_succ, List.all_append, Htk.out]
          simp only [List.all_cons, List.all_nil, Bool.and_true, Bool.true_and]
          rw [ha, hb, h.1, h.2]
          simp)
        obtain ⟨s1, hs1⟩ : ∃ x, a[j].1.set = x := ⟨_, rfl⟩
        obtain ⟨s2, hs2⟩ : ∃ x, b[j].1.set = x := ⟨_, rfl⟩
        obtain ⟨r1, hr1⟩ : ∃ x, a[j].1.rg = x := ⟨_, rfl⟩
        obtain ⟨r2, hr2⟩ : ∃ x, b[j].1.rg = x := ⟨_, rfl⟩
        obtain ⟨A1, hA1⟩ : ∃ x, a[j].2.a = x := ⟨_, rfl⟩
        obtain ⟨A2, hA2⟩ : ∃ x, b[j].2.a = x := ⟨_, rfl⟩
        obtain ⟨c1, hc1⟩ : ∃ x, a[j].2.c = x := ⟨_, rfl⟩
        obtain ⟨c2, hc2⟩ : ∃ x, b[j].2.c = x := ⟨_, rfl⟩
        rw [hs1] at a0 Hall Hnx
        rw [hr1, hA1, hc1] at a1 hSa
        rw [hs2] at d0 Hall Hnx
        rw [hr2, hA2, hc2] at d1 hSb
        rw [hr1, hr2] at Hall Hnx
        have HS := Lib.hid (fun W (hW : Below wr.heap.size wr W) => sameRef_any A1 A2 r1.length c1 r2.length c2 r1 r2 W (hSa.below hW) (hSb.below hW))
        clear hs1 hs2 hr1 hr2 hA1 hA2 hc1 hc2 ha hb hSa hSb la lb
        go_upto_region 6 with fail
        refine wp_region_below wr.heap.size (Nat.le_refl _) (by kernel_rfl) (by kernel_rfl) ?_
        intro I _ F hFc hFb hFs
        have e0 := fun i => (hFc i b1 (o1 + j * 2) hb1).trans a0
        have e1 := fun i => (hFc i b1 (o1 + j * 2 + 1) hb1).trans a1
        have e2 := fun i => (hFc i b2 (o2 + j * 2) hb2).trans d0
        have e3 := fun i => (hFc i b2 (o2 + j * 2 + 1) hb2).trans d1
        have hj0 : 0 ≤ (j : Int) := by omega
        by_cases h1 : s1 = s2
        · subst h1
          repeat (go_big_quiet_step ((first
            | (go_at_call 22; exact class_call hFb hFs (Nat.le_refl _) (HS.out _ (hFb _))))))
          refine wpQuiet_nil ?_
          rintro _ ⟨iq, rfl⟩
          generalize hw4 : F iq = w4
          have hb4 : Below wr.heap.size wr w4 := by rw [← hw4]; exact hFb iq
          have Hb4 := Lib.hid hb4
          clear hw4 hFc hFb hFs e0 e1 e2 e3 hb4 a0 a1 d0 d1
          by_cases hrr : r1 = r2
          · have hd : decide (r1 = r2) = true := by simpa using hrr
            rw [hd]
            have Hn2 := Lib.hid (Hnx.out ⟨rfl, hrr⟩)
            clear Hnx Hall hrr hd
            go_wp2
            go_roundw
            case rel => exact ⟨j + 1, by omega, by go_num, Hn2, Hbr.out.trans (Hb4.out.mono hsr)⟩
            case measure => simp [intOf]; omega
          · have hd : decide (r1 = r2) = false := by simpa using hrr
            rw [hd]
            have Hf : Hid (res = false) := Lib.hid (by
              rw [Hres.out]
              simp only [decide_true, Bool.true_and]
              rw [Bool.eq_false_iff]
              exact fun h => hrr (Hall.out h).2)
            clear Hnx Hall hrr hd
            go_wp2
            go_ret
            exact ⟨by rw [Hf.out]; rfl, Hbr.out.trans (Hb4.out.mono hsr)⟩
        · have hne : (s1 == s2) = false := by simpa using h1
          have hne' : (s1 != s2) = true := by simpa using h1
          have Hf : Hid (res = false) := Lib.hid (by
            rw [Hres.out]
            simp only [decide_true, Bool.true_and]
            rw [Bool.eq_false_iff]
            exact fun h => h1 (Hall.out h).1)
          repeat (go_big_quiet_step ((first
            | (go_at_call 22; exact class_call hFb hFs (Nat.le_refl _) (HS.out _ (hFb _))))))
          refine wpQuiet_nil ?_
          rintro _ ⟨iq, rfl⟩
          generalize hw4 : F iq = w4
          have hb4 : Below wr.heap.size wr w4 := by rw [← hw4]; exact hFb iq
          have Hb4 := Lib.hid hb4
          clear hw4 hFc hFb hFs e0 e1 e2 e3 hb4 a0 a1 d0 d1 Hnx Hall
          go_wp2
          go_ret
          exact ⟨by rw [Hf.out]; rfl, Hbr.out.trans (Hb4.out.mono hsr)⟩
      · obtain rfl : j = n := by omega
        go_wp2
        go_ret
        exact ⟨by rw [Hres.out, Htk.out]; simp, Hbr.out⟩
  · have hnm' : ¬ (n : Int) = (m : Int) := by omega
    go_wp2_with fail
    go_ret
    exact ⟨by rw [Hres.out]; simp [hnm], Below.refl _ _⟩
end Go.Proofs.YtabcadpfhachoaaGreat

namespace Go.Proofs.YtabcadpfhachoaaGreat
open Go.RowKit
set_option linter.unusedVariables false
set_option linter.unusedSimpArgs false

theorem FcPost.parts {w : World} {x : List Fc × Int} {e : Ending} {w' : World} (h : FcPost w x e w') : ∃ (l : FL) (A : Option Addr) (c : Nat), e = .returned (.tuple #[.slice A l.length c, .int .i64 x.2]) ∧ FsOwn w' w.heap.size (.slice A l.length c) l ∧ fcs l = x.1 ∧ Below w.heap.size w w' := by
  obtain ⟨l, v, rfl, hF, hl, hb⟩ := h
  obtain ⟨A, c, rfl, _, _, _⟩ := own_slice hF.o
  exact ⟨l, A, c, rfl, hF, hl, hb⟩
set_option maxHeartbeats 8000000 in
set_option maxRecDepth 100000 in
theorem awake07_any (w : World) : Calls Tryz.prog 11 #[] w fun e w' => e = .returned (.bool true) ∧ Below w.heap.size w w' := by
  have hx := ex_faces
  have Hx := Lib.hid hx
  clear hx
  go_enter Tryz.func11, Tryz.ntmps11
  go_wp2_with fail
  refine (faces_any (some ⟨w.heap.size + 1 + 1, 0, none⟩) 2 2 [([⟨0, 0, 2, 1⟩], ⟨some ⟨w.heap.size, 0, none⟩, 1⟩), ([⟨1, 0, 3, 1⟩], ⟨some ⟨w.heap.size + 1, 0, none⟩, 1⟩)] _
    (SlG.lit ((w.alloc (.cells #[.int .i64 0, .int .i64 0, .int .i64 2, .int .i64 1] 42)).alloc (.cells #[.int .i64 1, .int .i64 0, .int .i64 3, .int .i64 1] 42)) 34 #[.slice (some ⟨w.heap.size, 0, none⟩) 1 1, .slice (some ⟨w.heap.size + 1, 0, none⟩) 1 1] _ 2 _ (by simp) rfl (by omega) rfl (fun x hx => by
      simp only [List.mem_cons, List.not_mem_nil, or_false] at hx
      rcases hx with rfl | rfl
      · exact (SlR.lit w 42 #[.int .i64 0, .int .i64 0, .int .i64 2, .int .i64 1] [⟨0, 0, 2, 1⟩] 1 _ rfl rfl (by omega) rfl).alloc _
      · exact SlR.lit (w.alloc (.cells #[.int .i64 0, .int .i64 0, .int .i64 2, .int .i64 1] 42)) 42 #[.int .i64 1, .int .i64 0, .int .i64 3, .int .i64 1] [⟨1, 0, 3, 1⟩] 1 _ (by simp) rfl (by omega) rfl)) (by simp [rgs])).mono ?_
  intro e w1 h1
  change FcPost _ (facesP exM) e w1 at h1
  rw [Hx.out] at h1
  obtain ⟨l, A, c, rfl, hF, hl, hb⟩ := h1.parts
  have hll : l.length = 3 := by have := congrArg List.length hl; simpa [fcs, exF] using this
  have HF := Lib.hid hF.slf
  have Hl := Lib.hid hl
  have Hb1 : Hid (Below w.heap.size w w1) := Lib.hid (show Below w.heap.size w w1 from (by have hbq := hb; exact (by repeat' (first | with_reducible exact Below.refl _ _ | with_reducible assumption | with_reducible refine below_drewN ?_ _ | with_reducible refine Below.drew ?_ | with_reducible refine Below.alloc ?_ ?_ _ | with_reducible refine Below.setCell ?_ ?_ _ | with_reducible refine Below.trans ?_ (Below.mono (by with_reducible assumption) ?_) | with_reducible refine below_only ?_ (by with_reducible assumption) ?_ ?_ | (simp; done) | (simp; omega) | omega))))
  rw [hll] at HF ⊢
  have hs1 := Hb1.out.size
  clear h1 hF hl hb hll
  go_wp2_with fail
  refine (same07_any A (some ⟨w1.heap.size + 1 + 1 + 1, 0, none⟩) 3 c 3 3 l [(⟨1, [⟨0, 0, 1, 1⟩]⟩, ⟨some ⟨w1.heap.size, 0, none⟩, 1⟩), (⟨2, [⟨2, 0, 3, 1⟩]⟩, ⟨some ⟨w1.heap.size + 1, 0, none⟩, 1⟩), (⟨3, [⟨1, 0, 2, 1⟩]⟩, ⟨some ⟨w1.heap.size + 1 + 1, 0, none⟩, 1⟩)] _ (HF.out.below (by repeat' (first | with_reducible exact Below.refl _ _ | with_reducible refine below_drewN ?_ _ | with_reducible refine Below.drew ?_ | with_reducible refine Below.alloc ?_ ?_ _ | with_reducible refine Below.setCell ?_ ?_ _ | with_reducible refine Below.trans ?_ (Below.mono (by with_reducible assumption) ?_) | (simp; done) | (simp; omega) | omega)))
    (SlF.lit (((w1.alloc (.cells #[.int .i64 0, .int .i64 0, .int .i64 1, .int .i64 1] 42)).alloc (.cells #[.int .i64 2, .int .i64 0, .int .i64 3, .int .i64 1] 42)).alloc (.cells #[.int .i64 1, .int .i64 0, .int .i64 2, .int .i64 1] 42)) 36 #[.int .i64 1, .slice (some ⟨w1.heap.size, 0, none⟩) 1 1, .int .i64 2, .slice (some ⟨w1.heap.size + 1, 0, none⟩) 1 1, .int .i64 3, .slice (some ⟨w1.heap.size + 1 + 1, 0, none⟩) 1 1] _ 3 _ (by simp) rfl (by omega) rfl (fun x hx => by
      simp only [List.mem_cons, List.not_mem_nil, or_false] at hx
      rcases hx with rfl | rfl | rfl
      · exact ((SlR.lit w1 42 #[.int .i64 0, .int .i64 0, .int .i64 1, .int .i64 1] [⟨0, 0, 1, 1⟩] 1 _ rfl rfl (by omega) rfl).alloc _).alloc _
      · exact (SlR.lit (w1.alloc (.cells #[.int .i64 0, .int .i64 0, .int .i64 1, .int .i64 1] 42)) 42 #[.int .i64 2, .int .i64 0, .int .i64 3, .int .i64 1] [⟨2, 0, 3, 1⟩] 1 _ (by simp) rfl (by omega) rfl).alloc _
      · exact SlR.lit ((w1.alloc (.cells #[.int .i64 0, .int .i64 0, .int .i64 1, .int .i64 1] 42)).alloc (.cells #[.int .i64 2, .int .i64 0, .int .i64 3, .int .i64 1] 42)) 42 #[.int .i64 1, .int .i64 0, .int .i64 2, .int .i64 1] [⟨1, 0, 2, 1⟩] 1 _ (by simp) rfl (by omega) rfl)) (by omega)).mono ?_
  rintro e w2 ⟨rfl, hb2⟩
  have hsame : sameFP (fcs l) (fcs [(⟨1, [⟨0, 0, 1, 1⟩]⟩, (⟨some ⟨w1.heap.size, 0, none⟩, 1⟩ : LV)), (⟨2, [⟨2, 0, 3, 1⟩]⟩, ⟨some ⟨w1.heap.size + 1, 0, none⟩, 1⟩), (⟨3, [⟨1, 0, 2, 1⟩]⟩, ⟨some ⟨w1.heap.size + 1 + 1, 0, none⟩, 1⟩)]) = true := by
    rw [Hl.out]
    exact sameFP_refl exF
  rw [hsame]
  go_wp2_with fail
  go_ret
  exact ⟨rfl, Hb1.out.trans (Below.mono (show Below w1.heap.size w1 w2 from (by have hbq := hb2; exact (by repeat' (first | with_reducible exact Below.refl _ _ | with_reducible assumption | with_reducible refine below_drewN ?_ _ | with_reducible refine Below.drew ?_ | with_reducible refine Below.alloc ?_ ?_ _ | with_reducible refine Below.setCell ?_ ?_ _ | with_reducible refine Below.trans ?_ (Below.mono (by with_reducible assumption) ?_) | with_reducible refine below_only ?_ (by with_reducible assumption) ?_ ?_ | (simp; done) | (simp; omega) | omega)))) hs1)⟩
end Go.Proofs.YtabcadpfhachoaaGreat

namespace Go.Proofs.YtabcadpfhachoaaGreat
open Go.RowKit
set_option linter.unusedVariables false
set_option linter.unusedSimpArgs false

theorem mkRegs_ok (n : Nat) (r : List Int) (s : Int) (hs : 1 ≤ s) (hs1 : s ≤ 1000) : ∀ a ∈ mkRegs n r s 2, Reg s 6 a := by
  intro a ha
  obtain ⟨k, _, rfl⟩ := List.mem_map.1 ha
  exact mkReg_reg _ s 2 hs hs1 (by omega) (by omega)
theorem regs_flat {s : Int} {k : Nat} : ∀ {m : List (List R4)}, (∀ a ∈ m, Reg s k a) → m.flatten.length ≤ k * m.length
  | [], _ => by simp
  | a :: t, h => by
    have h1 := (h a (by simp)).len
    have h2 := regs_flat (m := t) (fun b hb => h b (List.mem_cons_of_mem _ hb))
    rw [List.flatten_cons, List.length_append, List.length_cons, Nat.mul_succ]
    omega
theorem regs_faces {s : Nat} {m : List (List R4)} (hs : s ≤ 10) (hl : m.length ≤ 5) (h : ∀ a ∈ m, Reg (s : Int) 6 a) : m.flatten.length ≤ 45 ∧ ∃ F, facesP m = (F, 0) ∧ FacesOk s m F := by
  have h1 := regs_flat h
  exact ⟨by omega, facesP_ok hs (by omega) (fun a ha => (h a ha).ins) (List.all_eq_true.2 fun a ha => (h a ha).valid (by omega) (by omega))⟩
theorem has_reg {s : Int} {k : Nat} {l : List R4} (h : Reg s k l) (hs : s ≤ 1000) (hk : k ≤ 120) (x y : Int) : hasP l x y = inL l x y := by
  unfold hasP
  rw [h.valid hs hk, Bool.true_and]
theorem own_slr {w : World} {base : Nat} {A : Option Addr} {c : Nat} {l : List R4} (h : w.ownsRow base 42 4 (.slice A l.length c) l.length (rCells l)) : SlR w A l.length c l := by
  obtain ⟨A', c', e, h1, h2, h3⟩ := own_slice h
  injection e with e1 _ e3
  subst e1
  subst e3
  exact ⟨rfl, h2, h3, h1⟩
theorem rgCells_one (l : RL) : ∀ u ∈ rgCells l, u.oneCell' = true := by
  intro u hu
  obtain ⟨x, _, rfl⟩ := List.mem_map.1 hu
  rfl
theorem bit_at (z a : Nat) (hz : z < 2 ^ 62) : bits BinOp.and IntKind.i64 ((z : Int) / 2 ^ a) 1 = (((z.testBit a).toNat : Nat) : Int) := by
  have h1 : (z : Int) / 2 ^ a = ((z / 2 ^ a : Nat) : Int) := by simp
  have h2 : z / 2 ^ a ≤ z := Nat.div_le_self _ _
  rw [h1, show (1 : Int) = ((1 : Nat) : Int) from rfl, and_i64n _ _ (by omega) (by omega), Nat.and_one_is_mod, Nat.testBit_eq_decide_div_mod_eq]
  congr 1
  rcases Nat.mod_two_eq_zero_or_one (z / 2 ^ a) with h | h <;> simp [h]
theorem xor_at (z a b : Nat) (hz : z < 2 ^ 62) (ha : a ≤ 60) (hb : b ≤ 60) : bits BinOp.xor IntKind.i64 (z : Int) (bits BinOp.or IntKind.i64 (wrap64 ((2 : Int) ^ a)) (wrap64 ((2 : Int) ^ b))) = ((z ^^^ (2 ^ a ||| 2 ^ b) : Nat) : Int) := by
  have h1 : 2 ^ a < 2 ^ 62 := Nat.pow_lt_pow_right (by omega) (by omega)
  have h2 : 2 ^ b < 2 ^ 62 := Nat.pow_lt_pow_right (by omega) (by omega)
  rw [shl_one a (by omega), shl_one b (by omega), or_i64n _ _ h1 h2, xor_i64n _ _ hz (Nat.or_lt_two_pow h1 h2)]
end Go.Proofs.YtabcadpfhachoaaGreat
