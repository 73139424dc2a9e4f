/- Contract: merge (regions). -/
import Derived.Test.YtpcfhcdbibklcaaGreatU1
import Derived.Test.YtpcfhcdbibklcaaGreatR6
import Derived.Test.YtpcfhcdbibklcaaGreatGt
namespace Go.Proofs.YtpcfhcdbibklcaaGreat
open Go.RowKit
set_option linter.unusedVariables false
set_option linter.unusedSimpArgs false

theorem sEdges_take_succ (l : List (Sg Unit)) (k : Nat) (h : k < l.length) : sEdges (l.take (k + 1)) = sEdges (l.take k) ++ [l[k].1, l[k].2.1] := by
  rw [List.take_succ_eq_append_getElem h]; unfold sEdges; rw [List.flatMap_append]; rfl
theorem sEdges_len (l : List (Sg Unit)) : (sEdges l).length = 2 * l.length := by
  induction l with
  | nil => rfl
  | cons q t ih => simp [sEdges] at ih ⊢; omega

set_option maxHeartbeats 16000000 in
set_option maxRecDepth 100000 in
theorem merge_any (f : Nat) (lb : Array Value) (how : Bool → Bool → Bool) (va vb : Value) (la lc : List (Sg Unit)) (w : World) (hA : SlS w va la) (hB : SlS w vb lc) (hn : la.length ≤ 100000) (hm : lc.length ≤ 100000)
    (eg : ∀ args w, (callFunc f args).run Tryz.prog w = .ok (.enter f args) w)
    (HF : ∀ W x y, Below w.heap.size w W → Calls Tryz.prog f (#[.bool x, .bool y] ++ lb) W fun e w' => e = .returned (.bool (how x y)) ∧ Below W.heap.size W w') :
    Calls Tryz.prog 118 #[va, vb, .func (.func f) #[] lb] w (SpPost w (mergeP how la lc)) := by
  obtain ⟨i0, hi, hz0, hz1, hz2⟩ := info_parts Tryz.infoSpan
  obtain ⟨j0, hj, hy0, hy1, hy2⟩ := info_parts Tryz.infoInt
  obtain ⟨A, ca, rfl, hA1, hA2, hA3⟩ := id hA
  obtain ⟨B, cb, rfl, hB1, hB2, hB3⟩ := id hB
  have HA := Lib.hid hA
  have HB := Lib.hid hB
  have HFh := Lib.hid HF
  have Hm : Hid (mergeP how la lc = foldC (fun x => opt (how (inR la x) (inR lc x))) (asc (sEdges (la ++ lc))) []) := Lib.hid rfl
  have Hac : Hid (asc (sEdges (la ++ lc)) = Lib.compact (srt (sEdges (la ++ lc)))) := Lib.hid rfl
  obtain ⟨al, hal⟩ : ∃ al, la ++ lc = al := ⟨_, rfl⟩
  have hall : al.length ≤ 200000 := by rw [← hal, List.length_append]; omega
  rw [hal] at Hm Hac
  obtain ⟨N, hN⟩ : ∃ N, la.length = N := ⟨_, rfl⟩
  obtain ⟨M, hM⟩ : ∃ M, lc.length = M := ⟨_, rfl⟩
  have HN := Lib.hid hN
  have HM := Lib.hid hM
  have Hal := Lib.hid hal
  rw [hN] at HA ⊢
  rw [hM] at HB ⊢
  clear hA hB HF hA1 hA2 hA3 hB1 hB2 hB3 hal hN hM
  go_enter Tryz.func118, Tryz.ntmps118
  go_upto_region 3 with (first
    | (go_at_call 128
       refine (concatS_any w.heap.size A B N ca M cb la lc _ (cell_of_row _ w.heap.size 0 _ _ _ (heap_alloc_new w _)) (cell_of_row _ w.heap.size 1 _ _ _ (heap_alloc_new w _)) (by simp) hn hm (HA.out.below (by repeat' (first | with_reducible exact Below.refl _ _ | with_reducible refine below_drewN ?_ _ | with_reducible refine Below.drew ?_ | with_reducible refine Below.alloc ?_ ?_ _ | with_reducible refine Below.setCell ?_ ?_ _ | with_reducible refine Below.trans ?_ (Below.mono (by with_reducible assumption) ?_) | (simp; done) | (simp; omega) | omega))) (HB.out.below (by repeat' (first | with_reducible exact Below.refl _ _ | with_reducible refine below_drewN ?_ _ | with_reducible refine Below.drew ?_ | with_reducible refine Below.alloc ?_ ?_ _ | with_reducible refine Below.setCell ?_ ?_ _ | with_reducible refine Below.trans ?_ (Below.mono (by with_reducible assumption) ?_) | (simp; done) | (simp; omega) | omega)))).mono ?_
       rintro e w0 ⟨v0, rfl, hown0, hb0⟩
       rw [Hal.out] at hown0
       obtain ⟨Sd, sc, rfl, hSl, hSc, hSm⟩ := own_slice hown0
       have HSl := Lib.hid hSl
       have Hb0 : Hid (Below w.heap.size w w0) := Lib.hid (show Below w.heap.size w w0 from (by have hbq := hb0; exact (by repeat' (first | with_reducible exact Below.refl _ _ | with_reducible assumption | with_reducible refine below_drewN ?_ _ | with_reducible refine Below.drew ?_ | with_reducible refine Below.alloc ?_ ?_ _ | with_reducible refine Below.setCell ?_ ?_ _ | with_reducible refine Below.trans ?_ (Below.mono (by with_reducible assumption) ?_) | with_reducible refine below_only ?_ (by with_reducible assumption) ?_ ?_ | (simp; done) | (simp; omega) | omega))))
       clear hown0 hb0 hSl)
    | fail)
  have hs0 := Hb0.out.size
  go_loopw [7, 9, 19] (fun o _ i wr => ∃ k : Nat, k ≤ al.length ∧ i = .int .i64 (k : Int) ∧ wr.ownsRow w0.heap.size 3 1 o (sEdges (al.take k)).length ((sEdges (al.take k)).map (.int .i64)) ∧ Below w0.heap.size w0 wr) (fun _ _ i _ => al.length - (intOf i).toNat)
  case atStart => exact ⟨0, Nat.zero_le _, rfl, World.ownsRow_nil _ _ _ _, Below.refl _ _⟩
  case round =>
    obtain ⟨k, hk, rfl, hown, hbw⟩ := hrel
    have hsw := hbw.size
    have Hown := Lib.hid hown
    have Hbw := Lib.hid hbw
    clear hown
    by_cases hkn : k < al.length
    · obtain ⟨b, off, rfl, hb, hcs⟩ := (HSl.out.below hbw).resolve_left (by omega)
      obtain ⟨i1, i2⟩ := sCells_at al k hkn
      have c0 := hcs _ _ i1
      have c1 : wr.cell? ⟨b, off + k * 2 + 1, none⟩ = some (.int .i64 al[k].2.1) := hcs _ _ i2
      have Hnext := Lib.hid (sEdges_take_succ al k hkn)
      have hlen : (sEdges (al.take k)).length ≤ 400000 := by rw [sEdges_len, List.length_take]; omega
      have hkn' : (k : Int) < (al.length : Int) := by omega
      generalize al[k] = s at *
      generalize sEdges (al.take k) = es at *
      clear hbw hcs i1 i2
      go_wp2_with (first
        | (at_builtin
           refine wpList_append_any _ rfl (.tmp 23) (.tmp 28) _ rfl w0.heap.size 3 j0 _ 1 8 Tryz.underlying22 hj hy0 hy1 hy2 rfl (by omega) _ es.length (es.map (.int .i64)) rfl
             ((Hown.out.alloc _).alloc _) _ _ 2 2 [.int .i64 s.1, .int .i64 s.2.1] rfl ⟨rfl, fun _ => ⟨_, rfl, Nat.lt_succ_self _, fun j u hu => (by exact World.news_of_block (heap_alloc2_new wr _ (.cells #[.int .i64 s.1, .int .i64 s.2.1] 3)) j u hu)⟩⟩ (by simp [Value.oneCell']) (by simp only [maxLen]; omega) (by omega) (by simp; omega) ?_
           intro v5 w5 hown5 hg5 hat5)
        | fail)
      go_roundw
      case rel =>
        refine ⟨k + 1, by omega, by go_num, ?_, Below.grown (((Hbw.out.alloc hsw _).alloc (by simp; omega) _)) hg5 (by simp; omega) (own_base Hown.out)⟩
        rw [Hnext.out, List.length_append, List.map_append]
        exact hown5
      case measure => simp [intOf]; omega
    · have Hown3 : Hid (wr.ownsRow w0.heap.size 3 1 u7 (sEdges al).length ((sEdges al).map (.int .i64))) := Lib.hid (by have := Hown.out; rw [List.take_of_length_le (by omega)] at this; exact this)
      have hel : (sEdges al).length ≤ 400000 := by rw [sEdges_len]; omega
      have Hsr := Lib.hid (srt_len (sEdges al))
      have hkn' : ¬ (k : Int) < (al.length : Int) := by omega
      have hub := Lib.hid (own_base Hown3.out)
      have Hasc := Lib.hid (asc_all (sEdges al)).2.2
      clear hbw Hown
      obtain ⟨ex, hex⟩ : ∃ ex, asc (sEdges al) = ex := ⟨_, rfl⟩
      rw [hex] at Hm Hac Hasc
      clear hex
      generalize sEdges al = es at *
      go_wp2_with fail
      refine (sort_own _ Hown3.out (by omega)).mono ?_
      rintro e w1 ⟨rfl, hown1, hg1⟩
      have Hown1 : Hid (w1.ownsRow w0.heap.size 3 1 u7 (srt es).length ((srt es).map (.int .i64))) := Lib.hid (by rw [Hsr.out]; exact hown1)
      have Hb1 : Hid (Below w0.heap.size w0 w1) := Lib.hid (Hbw.out.grown hg1 hsw hub.out)
      clear hown1 hg1
      go_wp2_with fail
      refine (compact_own _ Hown1.out).mono ?_
      rintro e w2 ⟨v2, rfl, hown2, hg2, hv2⟩
      have Hb2 : Hid (Below w.heap.size w w2) := Lib.hid (Hb0.out.trans ((Hb1.out.grown hg2 Hb1.out.size hub.out).mono hs0))
      rw [← Hac.out] at hown2
      obtain ⟨C, cc, rfl, hC⟩ := SlI.of_own hown2
      have HC := Lib.hid hC
      clear hown2 hg2 hv2 hC
      have hs2 := Hb2.out.size
      have hex4 : ex.length ≤ 400000 := by have := Hasc.out; omega
      obtain ⟨E, hE⟩ : ∃ E, ex.length = E := ⟨_, rfl⟩
      have HEl := Lib.hid hE
      rw [hE] at HC hex4 ⊢
      clear hE
      have HinA : Hid (∀ W x, Below w2.heap.size w2 W → Calls Tryz.prog 129 #[.slice A N ca, .int .i64 x] W fun e w' => e = .returned (.bool (inR la x)) ∧ Below W.heap.size W w') := Lib.hid (fun W x hW => insideS_any _ la x W (HA.out.below (Hb2.out.trans (hW.mono hs2))))
      have HinB : Hid (∀ W x, Below w2.heap.size w2 W → Calls Tryz.prog 129 #[.slice B M cb, .int .i64 x] W fun e w' => e = .returned (.bool (inR lc x)) ∧ Below W.heap.size W w') := Lib.hid (fun W x hW => insideS_any _ lc x W (HB.out.below (Hb2.out.trans (hW.mono hs2))))
      have HFx : Hid (∀ W x y, Below w2.heap.size w2 W → Calls Tryz.prog f (#[.bool x, .bool y] ++ lb) W fun e w' => e = .returned (.bool (how x y)) ∧ Below W.heap.size W w') := Lib.hid (fun W x y hW => HFh.out W x y (Hb2.out.trans (hW.mono hs2)))
      go_upto_region 11 with fail
      go_loopw [10, 11, 12, 13] (fun o i _ _ wr => ∃ (j : Nat) (acc : List (Sg Unit)), i = .int .i64 ((j : Int) + 1) ∧ j ≤ E ∧ wr.ownsRow w2.heap.size 111 2 o acc.length (sCells acc) ∧ Below w2.heap.size w2 wr ∧ Hid (foldC (fun x => opt (how (inR la x) (inR lc x))) (ex.drop j) acc = foldC (fun x => opt (how (inR la x) (inR lc x))) ex []) ∧ Hid (acc.length ≤ j)) (fun _ i _ _ _ => E + 1 - (intOf i).toNat)
      case atStart => exact ⟨0, [], rfl, Nat.zero_le _, World.ownsRow_nil _ _ _ _, Below.refl _ _, Lib.hid rfl, Lib.hid (Nat.le_refl _)⟩
      case round =>
        obtain ⟨j, acc, rfl, hjE, hown, hbr, Hrun, Hacc⟩ := hrel
        have hsr := hbr.size
        have Hown := Lib.hid hown
        have Hbr := Lib.hid hbr
        clear hown
        by_cases hj : j + 1 < E
        · have hj1 : j < ex.length := by have := HEl.out; omega
          have hj2 : j + 1 < ex.length := by have := HEl.out; omega
          obtain ⟨xb, xo, hCe, hxb, cxa⟩ := HC.out.at j hj1
          obtain ⟨xb', xo', hCe', _, cxb⟩ := HC.out.at (j + 1) hj2
          rw [hCe] at hCe'
          injection hCe' with hCe'
          injection hCe' with e1 e2 _
          subst e1 e2 hCe
          have Hdrop := Lib.hid (foldC_drop (fun x => opt (how (inR la x) (inR lc x))) ex j hj2 acc)
          generalize ex[j] = x at *
          generalize ex[j + 1] = x' at *
          have cx0 := (hbr.cell (p := ⟨xb, xo + j, none⟩) hxb).trans cxa
          have cx1 := (hbr.cell (p := ⟨xb, xo + (j + 1), none⟩) hxb).trans cxb
          have Hch : Hid (how (inR la x) (inR lc x) = how (inR la x) (inR lc x)) := Lib.hid rfl
          have HiA := Lib.hid (fun W hW => HinA.out W x hW)
          have HiB := Lib.hid (fun W hW => HinB.out W x hW)
          have HFy := Lib.hid (fun W hW => HFx.out W (inR la x) (inR lc x) hW)
          generalize inR la x = ia at *
          generalize inR lc x = ic at *
          generalize how ia ic = ch at *
          have hj' : (j : Int) + 1 < (E : Int) := by omega
          have hwj : IntKind.i64.wrap ((j : Int) + 1 - 1) = (j : Int) := by rw [IntWalk.i64_in _ (by omega)]; omega
          have hwj2 : IntKind.i64.wrap (j : Int) = (j : Int) := IntWalk.i64_in _ (by omega)
          have hj0 : (0 : Int) ≤ (j : Int) := by omega
          have hj01 : (0 : Int) ≤ (j : Int) + 1 := by omega
          have hjl : (j : Int) < (E : Int) := by omega
          have hxbr : xb < wr.heap.size := by omega
          clear cxa cxb hbr
          have hal : acc.length ≤ 400000 := by have := Hacc.out; omega
          go_upto_region 14 with fail
          cases ch with
          | false =>
            go_upto_region 15 with (first
              | (go_at_call_of 129 (Value.slice A N ca)
                 refine (HiA.out _ (Hbr.out.trans (Below.mono (by repeat' (first | with_reducible exact Below.refl _ _ | with_reducible refine below_drewN ?_ _ | with_reducible refine Below.drew ?_ | with_reducible refine Below.alloc ?_ ?_ _ | with_reducible refine Below.setCell ?_ ?_ _ | with_reducible refine Below.trans ?_ (Below.mono (by with_reducible assumption) ?_) | (simp; done) | (simp; omega) | omega)) hsr))).mono ?_
                 rintro e wA ⟨rfl, hA4⟩
                 have HA4 : Hid (Below wr.heap.size wr wA) := Lib.hid (show Below wr.heap.size wr wA from (by have hbq := hA4; exact (by repeat' (first | with_reducible exact Below.refl _ _ | with_reducible assumption | with_reducible refine below_drewN ?_ _ | with_reducible refine Below.drew ?_ | with_reducible refine Below.alloc ?_ ?_ _ | with_reducible refine Below.setCell ?_ ?_ _ | with_reducible refine Below.trans ?_ (Below.mono (by with_reducible assumption) ?_) | with_reducible refine below_only ?_ (by with_reducible assumption) ?_ ?_ | (simp; done) | (simp; omega) | omega))))
                 clear hA4)
              | (go_at_call_of 129 (Value.slice B M cb)
                 refine (HiB.out _ (Hbr.out.trans ((HA4.out.trans (Below.mono (by repeat' (first | with_reducible exact Below.refl _ _ | with_reducible refine below_drewN ?_ _ | with_reducible refine Below.drew ?_ | with_reducible refine Below.alloc ?_ ?_ _ | with_reducible refine Below.setCell ?_ ?_ _ | with_reducible refine Below.trans ?_ (Below.mono (by with_reducible assumption) ?_) | (simp; done) | (simp; omega) | omega)) HA4.out.size)).mono hsr))).mono ?_
                 rintro e wB ⟨rfl, hB4⟩
                 have HB4 : Hid (Below wr.heap.size wr wB) := Lib.hid (HA4.out.trans (Below.mono (show Below wA.heap.size wA wB from (by have hbq := hB4; exact (by repeat' (first | with_reducible exact Below.refl _ _ | with_reducible assumption | with_reducible refine below_drewN ?_ _ | with_reducible refine Below.drew ?_ | with_reducible refine Below.alloc ?_ ?_ _ | with_reducible refine Below.setCell ?_ ?_ _ | with_reducible refine Below.trans ?_ (Below.mono (by with_reducible assumption) ?_) | with_reducible refine below_only ?_ (by with_reducible assumption) ?_ ?_ | (simp; done) | (simp; omega) | omega)))) HA4.out.size))
                 clear hB4)
              | (go_at_fn f
                 refine (HFy.out _ (Hbr.out.trans ((HB4.out.trans (Below.mono (by repeat' (first | with_reducible exact Below.refl _ _ | with_reducible refine below_drewN ?_ _ | with_reducible refine Below.drew ?_ | with_reducible refine Below.alloc ?_ ?_ _ | with_reducible refine Below.setCell ?_ ?_ _ | with_reducible refine Below.trans ?_ (Below.mono (by with_reducible assumption) ?_) | (simp; done) | (simp; omega) | omega)) HB4.out.size)).mono hsr))).mono ?_
                 rintro e w4 ⟨rfl, hb4⟩
                 have Hb4 : Hid (Below wr.heap.size wr w4) := Lib.hid (HB4.out.trans (Below.mono (show Below wB.heap.size wB w4 from (by have hbq := hb4; exact (by repeat' (first | with_reducible exact Below.refl _ _ | with_reducible assumption | with_reducible refine below_drewN ?_ _ | with_reducible refine Below.drew ?_ | with_reducible refine Below.alloc ?_ ?_ _ | with_reducible refine Below.setCell ?_ ?_ _ | with_reducible refine Below.trans ?_ (Below.mono (by with_reducible assumption) ?_) | with_reducible refine below_only ?_ (by with_reducible assumption) ?_ ?_ | (simp; done) | (simp; omega) | omega)))) HB4.out.size))
                 clear hb4)
              | fail)
            have hs4 := Hb4.out.size
            have cx04 := (Hb4.out.cell (p := ⟨xb, xo + j, none⟩) hxbr).trans cx0
            have cx14 := (Hb4.out.cell (p := ⟨xb, xo + (j + 1), none⟩) hxbr).trans cx1
            have Hown4 := Lib.hid (ownsRow_below Hown.out Hb4.out)
            have hsw4 : w2.heap.size ≤ w4.heap.size := by omega
            clear cx0 cx1
            go_wp2
            go_roundw
            case rel => exact ⟨j + 1, acc, by go_num, by omega, Hown4.out, Hbr.out.trans (Hb4.out.mono hsr), Lib.hid (by rw [← Hrun.out, Hdrop.out]; rfl), Lib.hid (by have := Hacc.out; omega)⟩
            case measure => simp [intOf]; omega
          | true =>
            go_upto_region 15 with (first
              | (go_at_call_of 129 (Value.slice A N ca)
                 refine (HiA.out _ (Hbr.out.trans (Below.mono (by repeat' (first | with_reducible exact Below.refl _ _ | with_reducible refine below_drewN ?_ _ | with_reducible refine Below.drew ?_ | with_reducible refine Below.alloc ?_ ?_ _ | with_reducible refine Below.setCell ?_ ?_ _ | with_reducible refine Below.trans ?_ (Below.mono (by with_reducible assumption) ?_) | (simp; done) | (simp; omega) | omega)) hsr))).mono ?_
                 rintro e wA ⟨rfl, hA4⟩
                 have HA4 : Hid (Below wr.heap.size wr wA) := Lib.hid (show Below wr.heap.size wr wA from (by have hbq := hA4; exact (by repeat' (first | with_reducible exact Below.refl _ _ | with_reducible assumption | with_reducible refine below_drewN ?_ _ | with_reducible refine Below.drew ?_ | with_reducible refine Below.alloc ?_ ?_ _ | with_reducible refine Below.setCell ?_ ?_ _ | with_reducible refine Below.trans ?_ (Below.mono (by with_reducible assumption) ?_) | with_reducible refine below_only ?_ (by with_reducible assumption) ?_ ?_ | (simp; done) | (simp; omega) | omega))))
                 clear hA4)
              | (go_at_call_of 129 (Value.slice B M cb)
                 refine (HiB.out _ (Hbr.out.trans ((HA4.out.trans (Below.mono (by repeat' (first | with_reducible exact Below.refl _ _ | with_reducible refine below_drewN ?_ _ | with_reducible refine Below.drew ?_ | with_reducible refine Below.alloc ?_ ?_ _ | with_reducible refine Below.setCell ?_ ?_ _ | with_reducible refine Below.trans ?_ (Below.mono (by with_reducible assumption) ?_) | (simp; done) | (simp; omega) | omega)) HA4.out.size)).mono hsr))).mono ?_
                 rintro e wB ⟨rfl, hB4⟩
                 have HB4 : Hid (Below wr.heap.size wr wB) := Lib.hid (HA4.out.trans (Below.mono (show Below wA.heap.size wA wB from (by have hbq := hB4; exact (by repeat' (first | with_reducible exact Below.refl _ _ | with_reducible assumption | with_reducible refine below_drewN ?_ _ | with_reducible refine Below.drew ?_ | with_reducible refine Below.alloc ?_ ?_ _ | with_reducible refine Below.setCell ?_ ?_ _ | with_reducible refine Below.trans ?_ (Below.mono (by with_reducible assumption) ?_) | with_reducible refine below_only ?_ (by with_reducible assumption) ?_ ?_ | (simp; done) | (simp; omega) | omega)))) HA4.out.size))
                 clear hB4)
              | (go_at_fn f
                 refine (HFy.out _ (Hbr.out.trans ((HB4.out.trans (Below.mono (by repeat' (first | with_reducible exact Below.refl _ _ | with_reducible refine below_drewN ?_ _ | with_reducible refine Below.drew ?_ | with_reducible refine Below.alloc ?_ ?_ _ | with_reducible refine Below.setCell ?_ ?_ _ | with_reducible refine Below.trans ?_ (Below.mono (by with_reducible assumption) ?_) | (simp; done) | (simp; omega) | omega)) HB4.out.size)).mono hsr))).mono ?_
                 rintro e w4 ⟨rfl, hb4⟩
                 have Hb4 : Hid (Below wr.heap.size wr w4) := Lib.hid (HB4.out.trans (Below.mono (show Below wB.heap.size wB w4 from (by have hbq := hb4; exact (by repeat' (first | with_reducible exact Below.refl _ _ | with_reducible assumption | with_reducible refine below_drewN ?_ _ | with_reducible refine Below.drew ?_ | with_reducible refine Below.alloc ?_ ?_ _ | with_reducible refine Below.setCell ?_ ?_ _ | with_reducible refine Below.trans ?_ (Below.mono (by with_reducible assumption) ?_) | with_reducible refine below_only ?_ (by with_reducible assumption) ?_ ?_ | (simp; done) | (simp; omega) | omega)))) HB4.out.size))
                 clear hb4)
              | fail)
            have hs4 := Hb4.out.size
            have cx04 := (Hb4.out.cell (p := ⟨xb, xo + j, none⟩) hxbr).trans cx0
            have cx14 := (Hb4.out.cell (p := ⟨xb, xo + (j + 1), none⟩) hxbr).trans cx1
            have Hown4 := Lib.hid (ownsRow_below Hown.out Hb4.out)
            have hsw4 : w2.heap.size ≤ w4.heap.size := by omega
            clear cx0 cx1
            rcases list_snoc acc with hsn | ⟨a0, q, hsn⟩
            · have Hnew : Hid (stepO acc x x' (opt true) = acc ++ [(x, x', ())]) := Lib.hid (by rw [hsn]; rfl)
              have hl0 : acc.length = 0 := by rw [hsn]; rfl
              have Hlen := Lib.hid hl0
              rw [hl0] at Hown4 hal
              obtain ⟨Bd, bc, rfl, _, _, _⟩ := own_slice Hown4.out
              clear hsn hl0
              go_upto_region 16 with fail
              go_upto_region 18 with fail
              have Hb5 : Hid (Below wr.heap.size wr w4) := Hb4
              have cx15 : w4.cell? ⟨xb, xo + (j + 1), none⟩ = some (.int .i64 x') := cx14
              have Hown5 : Hid (w4.ownsRow w2.heap.size 111 2 (.slice Bd 0 bc) 0 (sCells acc)) := Hown4
              have hsw5 : w2.heap.size ≤ w4.heap.size := hsw4
              clear cx04 cx14 Hown4
              generalize w4 = w5 at *
              go_wp2_with (first
                | (at_builtin
                   refine wpList_append_any _ rfl (.tmp 78) (.tmp 85) _ rfl w2.heap.size 111 i0 _ 2 16 Tryz.underlying96 hi hz0 hz1 hz2 rfl (by omega) _ 0 (sCells acc) rfl
                     (Hown5.out.alloc _) _ _ 1 1 [.int .i64 x, .int .i64 x'] rfl ⟨rfl, fun _ => ⟨_, rfl, Nat.lt_succ_self _, fun j u hu => (by exact news_any _ _ _ j u hu)⟩⟩ (by simp [Value.oneCell']) (by simp only [maxLen]; omega) (by omega) (by simp; omega) ?_
                   intro v6 w6 hown6 hg6 hat6)
                | fail)
              go_roundw
              case rel =>
                refine ⟨j + 1, acc ++ [(x, x', ())], by go_num, by omega, ?_, Below.grown ((Hbr.out.trans (Hb5.out.mono hsr)).alloc (by omega) _) hg6 (by simp; omega) (own_base Hown5.out), Lib.hid (by rw [← Hrun.out, Hdrop.out, ← Hnew.out]), Lib.hid (by have := Hacc.out; simp; omega)⟩
                rw [List.length_append, sCells_snoc, Hlen.out]
                exact hown6
              case measure => simp [intOf]; omega
            · have hl0 : acc.length = a0.length + 1 := by rw [hsn]; simp
              obtain ⟨nb, hnb⟩ : ∃ nb, acc.length = nb := ⟨_, rfl⟩
              obtain ⟨p, hp⟩ : ∃ p, a0.length = p := ⟨_, rfl⟩
              have hn1 : nb = p + 1 := by omega
              have hpl : p < acc.length := by omega
              have hblp : acc[p] = q := by
                have h1 : acc[p]? = some q := by rw [hsn, List.getElem?_append_right (by omega), hp]; simp
                rw [List.getElem?_eq_getElem hpl] at h1
                exact Option.some.inj h1
              have Hlen := Lib.hid hnb
              have Hn1 := Lib.hid hn1
              have Hsn := Lib.hid hsn
              have Hp := Lib.hid hp
              rw [hnb] at Hown4 hal
              obtain ⟨g, bc, rfl, hgb, hgl, hnc, hcm, hcells, hfr⟩ := own_at Hown4.out (by omega)
              have cr := hcells (p * 2 + 1) _ (sCells_at acc p hpl).2
              rw [hblp] at cr
              have Hset : Hid (∀ z : Int, sCells (a0 ++ [(q.1, z, ())]) = (sCells acc).set (p * 2 + 1) (.int .i64 z)) := Lib.hid (fun z => by
                rw [← sCells_setR acc p hpl z, hblp, hsn]
                congr 1
                rw [List.set_append_right _ _ (by omega), hp, Nat.sub_self]
                rfl)
              have hwn : IntKind.i64.wrap ((nb : Int) - 1) = (p : Int) := by rw [IntWalk.i64_in _ (by omega)]; omega
              have hnp : (p : Int) < (nb : Int) := by omega
              have hn00 : (0 : Int) < (nb : Int) := by omega
              have hp00 : (0 : Int) ≤ (p : Int) := by omega
              have hn0N : 0 < nb := by omega
              have hnpN : p < nb := by omega
              have hdn : decide (0 < nb) = true := decide_eq_true hn0N
              have hfg := hfr (p * 2 + 1)
              clear hsn hl0 hnb hp hn1 hpl hblp hcells hfr
              go_upto_region 16 with fail
              by_cases hqx : q.2.1 = x
              · have Hext : Hid (stepO acc x x' (opt true) = a0 ++ [(q.1, x', ())]) := Lib.hid (by rw [Hsn.out]; exact step_band_ext 0 0 x x' a0 q hqx)
                have hqd : (q.2.1 == x) = true := by simp [hqx]
                go_upto_region 17 with fail
                have Hb5 : Hid (Below wr.heap.size wr w4) := Hb4
                have cx15 : w4.cell? ⟨xb, xo + (j + 1), none⟩ = some (.int .i64 x') := cx14
                have cr5 : w4.cell? ⟨g, p * 2 + 1, none⟩ = some (.int .i64 q.2.1) := cr
                have fr5 : w4.frozen? ⟨g, p * 2 + 1, none⟩ = false := hfg
                have Hown5 : Hid (w4.ownsRow w2.heap.size 111 2 (.slice (some ⟨g, 0, none⟩) nb bc) nb (sCells acc)) := Hown4
                clear cx04 cx14 Hown4 cr hfg
                generalize w4 = w5 at *
                go_wp2
                go_roundw
                case rel =>
                  refine ⟨j + 1, a0 ++ [(q.1, x', ())], by go_num, by omega, ?_, (Hbr.out.trans (Hb5.out.mono hsr)).setCell hgb _, Lib.hid (by rw [← Hrun.out, Hdrop.out, ← Hext.out]), Lib.hid (by have := Hacc.out; have := Hlen.out; have := Hp.out; have := Hn1.out; simp; omega)⟩
                  have e1 : (a0 ++ [(q.1, x', ())]).length = nb := by rw [List.length_append, Hp.out, Hn1.out]; rfl
                  rw [e1, Hset.out]
                  exact own_setN Hown5.out _ _
                case measure => simp [intOf]; omega
              · have Hnew : Hid (stepO acc x x' (opt true) = acc ++ [(x, x', ())]) := Lib.hid (step_band_new x x' acc (by rw [Hsn.out]; simp; exact hqx))
                have hqd : (q.2.1 == x) = false := by simp [hqx]
                go_upto_region 18 with fail
                have Hb5 : Hid (Below wr.heap.size wr w4) := Hb4
                have cx15 : w4.cell? ⟨xb, xo + (j + 1), none⟩ = some (.int .i64 x') := cx14
                have Hown5 : Hid (w4.ownsRow w2.heap.size 111 2 (.slice (some ⟨g, 0, none⟩) nb bc) nb (sCells acc)) := Hown4
                have hsw5 : w2.heap.size ≤ w4.heap.size := hsw4
                clear cx04 cx14 Hown4 cr hfg
                generalize w4 = w5 at *
                go_wp2_with (first
                  | (at_builtin
                     refine wpList_append_any _ rfl (.tmp 78) (.tmp 85) _ rfl w2.heap.size 111 i0 _ 2 16 Tryz.underlying96 hi hz0 hz1 hz2 rfl (by omega) _ nb (sCells acc) rfl
                       (Hown5.out.alloc _) _ _ 1 1 [.int .i64 x, .int .i64 x'] rfl ⟨rfl, fun _ => ⟨_, rfl, Nat.lt_succ_self _, fun j u hu => (by exact news_any _ _ _ j u hu)⟩⟩ (by simp [Value.oneCell']) (by simp only [maxLen]; omega) (by omega) (by simp; omega) ?_
                     intro v6 w6 hown6 hg6 hat6)
                  | fail)
                go_roundw
                case rel =>
                  refine ⟨j + 1, acc ++ [(x, x', ())], by go_num, by omega, ?_, Below.grown ((Hbr.out.trans (Hb5.out.mono hsr)).alloc (by omega) _) hg6 (by simp; omega) (own_base Hown5.out), Lib.hid (by rw [← Hrun.out, Hdrop.out, ← Hnew.out]), Lib.hid (by have := Hacc.out; simp; omega)⟩
                  rw [List.length_append, sCells_snoc, Hlen.out]
                  exact hown6
                case measure => simp [intOf]; omega
        · have Hfin : Hid (mergeP how la lc = acc) := Lib.hid (by rw [Hm.out, ← Hrun.out, foldC_end _ _ _ (by have := HEl.out; omega)])
          have hj' : ¬ (j : Int) + 1 < (E : Int) := by omega
          clear hbr
          go_wp2
          go_ret
          exact ⟨_, rfl, by rw [Hfin.out]; exact own_rebase Hown.out hs2, Hb2.out.trans (Hbr.out.mono hs2)⟩
end Go.Proofs.YtpcfhcdbibklcaaGreat
