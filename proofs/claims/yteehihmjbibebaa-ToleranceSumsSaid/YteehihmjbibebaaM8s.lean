/- ToleranceSums: the walk. -/
import Derived.Test.YteehihmjbibebaaMw
import Derived.Test.YteehihmjbibebaaMz
import Derived.Test.YteehihmjbibebaaBj
import Derived.Test.YteehihmjbibebaaV4
import Derived.Test.YteehihmjbibebaaF5
namespace Go.Proofs.Yteehihmjbibebaa
open Go.RowKit
set_option linter.unusedVariables false
set_option linter.unusedSimpArgs false

theorem Try.infoMeasured : (Try.prog.info? 24).map (fun i => (i.zero, i.size, i.bytes)) = some (some (.agg #[.int .i64 0, .int .i64 0]), 2, 16) := by kernel_rfl
theorem all2_bd (F : Int → Int → Int) (hF : ∀ x y, 0 ≤ F x y ∧ F x y ≤ 1) (n : Nat) : 0 ≤ all2 F n ∧ all2 F n ≤ n * n := by
  have h1 := fun y => sumI_bd (fun x => F x y) 1 (by omega) (fun x => hF x y) n 0
  have h2 := sumI_bd (fun y => sumI (fun x => F x y) 0 n) (n * 1) (by omega) h1 n 0
  rw [Int.mul_one] at h2
  exact h2
theorem ind_bd (b : Bool) : 0 ≤ ind b ∧ ind b ≤ 1 := by unfold ind; split <;> omega
theorem bordT_bd (P : Int → Int → Bool) (n : Nat) : 0 ≤ bordT P n ∧ bordT P n ≤ 4 * (n * n) := by
  have h1 := all2_bd (D1 P) (fun x y => ind_bd _) n
  have h2 := all2_bd (D2 P) (fun x y => ind_bd _) n
  have h3 := all2_bd (D3 P) (fun x y => ind_bd _) n
  have h4 := all2_bd (D4 P) (fun x y => ind_bd _) n
  unfold bordT
  omega
theorem mCells_snoc (l : List (Int × Int)) (m : Int × Int) : mCells (l ++ [m]) = mCells l ++ [.int .i64 m.1, .int .i64 m.2] := by simp [mCells]
/-- What is measured of a region of the tape. -/
theorem reg9 {l : List R4} (h : Reg (9 : Nat) 15 l) : meaV l = (sizeP l, bordP l, 0) ∧ bordV l = (bordP l, 0) ∧ areaP l = sizeP l ∧ (0 ≤ sizeP l ∧ sizeP l ≤ 81) ∧ (0 ≤ bordP l ∧ bordP l ≤ 324) := by
  have hv := h.valid (by omega) (by omega)
  have ha : areaP l = sizeP l := by unfold areaP; rw [hv]; rfl
  refine ⟨by unfold meaV; rw [hv]; rfl, by unfold bordV; rw [hv]; rfl, ha, ?_, ?_⟩
  · have := h.area_bd (by omega) (by omega); rw [ha] at this; omega
  · have := bordT_bd (inL l) 9
    rw [bordP_true l 9 (by omega) h.ins]
    omega

set_option maxHeartbeats 8000000 in
set_option maxRecDepth 100000 in
theorem sums8Law (A : Option Addr) (n c : Nat) (zs : List Int) (w : World) (hn : zs.length = n) (hc : n ≤ c) (hm : c ≤ maxLen) (hw : ∀ z ∈ zs, (Lit.int .i64 z).wf = true) (hA : Lies w A n (zs.map (.int .i64))) :
    Calls Try.prog 5 #[.slice A n c] w fun e w' => e = .returned (.bool true) ∧ Below w.heap.size w w' := by
  obtain ⟨i0, hi, hz0, hz1, hz2⟩ := info_parts Try.infoMeasured
  have HN := Lib.hid (new_any A n c zs w hn hc hm hw hA)
  clear hn hw hA
  go_enter Try.func5, Try.ntmps5
  go_upto_region 4 with (first
    | (go_at_call 10
       refine HN.out.mono ?_
       rintro e w0 ⟨g, rfl, hg, ht, hb0⟩
       have HT0 := Lib.hid ht
       have Hb0 := Lib.hid hb0
       clear ht hb0)
    | fail)
  generalize zs.take 400 = r at *
  have hnb := nx_bd r 4 (by omega)
  have HNx := Lib.hid (next_any g r 4 w0 HT0.out (by omega))
  obtain ⟨n0, hn0⟩ := Int.eq_ofNat_of_zero_le hnb.1
  rw [hn0] at HNx hnb
  have hn3 : n0 ≤ 3 := by omega
  have hlt0 := HT0.out.lt
  go_upto_region 5 with (first
    | (go_at_call 11
       refine HNx.out.mono ?_
       rintro e w1 ⟨rfl, ht1, hg1⟩
       have HT1 := Lib.hid ht1
       have Hb1 : Hid (Below w.heap.size w w1) := Lib.hid (below_only Hb0.out hg1 hg Hb0.out.size)
       have hs01 := hg1.size
       clear ht1 hg1)
    | fail)
  clear hn0 hnb HNx HT0 Hb0 HN
  have hg1 : g < w1.heap.size := HT1.out.lt
  go_loopw [4, 5, 6, 7, 8, 9, 10, 11, 12] (fun o a b m _ _ _ _ _ wr => ∃ (k : Nat) (acc : List (Int × Int)) (r1 : List Int), m = .int .i64 (k : Int) ∧ acc.length + k ≤ 3 ∧ a = .int .i64 (sumA acc) ∧ b = .int .i64 (sumB acc) ∧ wr.ownsRow w1.heap.size 24 2 o acc.length (mCells acc) ∧ TapeAt wr g r1 ∧ Below w.heap.size w wr ∧ w1.heap.size ≤ wr.heap.size ∧ Hid (∀ q ∈ acc, (0 ≤ q.1 ∧ q.1 ≤ 81) ∧ 0 ≤ q.2 ∧ q.2 ≤ 324)) (fun _ _ _ m _ _ _ _ _ _ => (intOf m).toNat)
  case atStart => exact ⟨n0, [], r.tail, rfl, by simpa using hn3, rfl, rfl, World.ownsRow_nil _ _ _ _, HT1.out, Hb1.out, Nat.le_refl _, Lib.hid (fun q hq => by cases hq)⟩
  case round =>
    obtain ⟨k, acc, r1, rfl, hak, rfl, rfl, hown, htr, hbr, hsr, Hac⟩ := hrel
    have Hown := Lib.hid hown
    have HTr := Lib.hid htr
    have Hbr := Lib.hid hbr
    have hswr := hbr.size
    have hsum : 0 ≤ sumA acc ∧ sumA acc ≤ 243 ∧ 0 ≤ sumB acc ∧ sumB acc ≤ 972 := by
      have h : ∀ (l : List (Int × Int)), (∀ q ∈ l, (0 ≤ q.1 ∧ q.1 ≤ 81) ∧ 0 ≤ q.2 ∧ q.2 ≤ 324) → 0 ≤ sumA l ∧ sumA l ≤ l.length * 81 ∧ 0 ≤ sumB l ∧ sumB l ≤ l.length * 324 := by
        intro l
        induction l with
        | nil => simp [sumA, sumB]
        | cons a t ih =>
          intro h
          have h1 := ih fun q hq => h q (by simp [hq])
          have h2 := h a (by simp)
          have e1 : sumA (a :: t) = a.1 + sumA t := by simp [sumA]
          have e2 : sumB (a :: t) = a.2 + sumB t := by simp [sumB]
          rw [e1, e2, List.length_cons]
          omega
      have := h acc Hac.out
      omega
    clear hown htr hbr
    rcases k with _ | k
    · have HSm : Hid (∃ Am cm, u4 = .slice Am acc.length cm ∧ SlM wr Am acc.length cm acc) := Lib.hid (by
        obtain ⟨Am, cm, h1, h2, h3, h4⟩ := own_slice Hown.out
        exact ⟨Am, cm, h1, rfl, h3, h4, h2⟩)
      obtain ⟨Am, cm, rfl, hSm⟩ := HSm.out
      have Hvv : Hid (sumV acc = (sumA acc, sumB acc, 0)) := Lib.hid (by
        unfold sumV
        rw [if_neg (by omega), if_pos]
        rw [Bool.and_eq_true]
        refine ⟨List.all_eq_true.2 fun q hq => ?_, (measB_iff _ _).2 (by omega)⟩
        have := Hac.out q hq
        exact (measB_iff _ _).2 (by omega))
      have HSu := Lib.hid (sumT_any Am acc.length cm acc wr hSm)
      rw [Hvv.out] at HSu
      generalize sumA acc = sa at *
      generalize sumB acc = sb at *
      clear hSm HSm
      go_upto_region 15 with (first
        | (go_at_call 16
           refine HSu.out.mono ?_
           rintro e w2 ⟨rfl, hb2⟩
           have Hb2 := Lib.hid (Hbr.out.trans (hb2.mono hswr))
           clear hb2)
        | fail)
      have hs2 := Hb2.out.size
      obtain ⟨w3, hw3⟩ : ∃ w3 : World, w3 = w2.alloc (.cells #[.int .i64 sa, .int .i64 sb] 24) := ⟨_, rfl⟩
      have hr3 : w3.heap[w2.heap.size]? = some (.cells #[.int .i64 sa, .int .i64 sb] 24 (0, 0)) := by rw [hw3]; exact heap_alloc_new w2 _
      have Hb3 : Hid (Below w.heap.size w w3) := Lib.hid (by rw [hw3]; exact Hb2.out.alloc hs2 _)
      have hs3 := Hb3.out.size
      try simp only at hw3 ⊢
      rw [← hw3]
      have c0 := cell_of_row w3 w2.heap.size 0 _ _ _ hr3
      have c1 := cell_of_row w3 w2.heap.size 1 _ _ _ hr3
      clear hw3 hr3
      go_wp2_with (first
        | (go_at_call 9
           refine (awake8_any _).mono ?_
           rintro e w6 ⟨rfl, hb6⟩
           have Hb6 := Lib.hid (Hb3.out.trans (hb6.mono hs3))
           clear hb6)
        | fail)
      go_ret
      exact ⟨rfl, Hb6.out⟩
    · have hk0 : (0 : Int) < ((k + 1 : Nat) : Int) := by omega
      have Hreg := Lib.hid (mkReg_reg r1 9 3 (by omega) (by omega) (by omega) (by omega))
      have HRg := Lib.hid (region_any g r1 9 3 wr HTr.out (by omega) (by omega))
      obtain ⟨ra, hra⟩ : ∃ ra, mkReg r1 9 3 = ra := ⟨_, rfl⟩
      rw [hra] at Hreg HRg
      obtain ⟨ra, r2⟩ := ra
      simp only at Hreg HRg
      clear hra
      obtain ⟨h1, h2, h3, h4, h5⟩ := reg9 Hreg.out
      have HMe := Lib.hid (fun A c W (hW : SlR W A ra.length c ra) => meaT_any A ra.length c ra W hW)
      have HBo := Lib.hid (fun A c W (hW : SlR W A ra.length c ra) => bord5_any A ra.length c ra W hW)
      have HAr := Lib.hid (fun A c W (hW : SlR W A ra.length c ra) => areaR_any A ra.length c ra W hW)
      rw [h1] at HMe
      rw [h2] at HBo
      rw [h3] at HAr
      have hln : ra.length ≤ 15 := Hreg.out.len
      generalize sizeP ra = sz at *
      generalize bordP ra = bd at *
      clear h1 h2 h3 Hreg
      have hac3 : acc.length ≤ 3 := by omega
      go_upto_region 8 with (first
        | (go_at_call 12
           refine HRg.out.mono ?_
           rintro e w2 ⟨v2, rfl, hown2, ht2, hg2⟩
           simp only at hown2 ht2
           obtain ⟨D, dc, rfl, hS2⟩ := SlR.of_own hown2
           have HS2 := Lib.hid hS2
           have HT2 := Lib.hid ht2
           have Hown2 := Lib.hid (ownsRow_only Hown.out hg2 hg1)
           have Hb2 : Hid (Below w.heap.size w w2) := Lib.hid (below_only Hbr.out hg2 hg hswr)
           have hs2 := hg2.size
           have Hapart : Hid (∀ q, u4.ownBlock = some q → q < w2.heap.size) := Lib.hid (fun q hq => (Hown2.out.lt q hq).2)
           clear hown2 ht2 hg2 hS2)
        | fail)
      obtain ⟨wa, hwa⟩ : ∃ wa : World, wa = w2.alloc (.cells #[.slice D ra.length dc] 39) := ⟨_, rfl⟩
      rw [← hwa]
      have Hra : Hid (wa.heap[w2.heap.size]? = some (.cells #[.slice D ra.length dc] 39 (0, 0))) := Lib.hid (by rw [hwa]; exact heap_alloc_new w2 _)
      have hsa : w2.heap.size < wa.heap.size := by rw [hwa]; simp
      have HSa : Hid (SlR wa D ra.length dc ra) := Lib.hid (by rw [hwa]; exact HS2.out.alloc _)
      have HTa : Hid (TapeAt wa g r2) := Lib.hid (by rw [hwa]; exact HT2.out.alloc _)
      have Howna : Hid (wa.ownsRow w1.heap.size 24 2 u4 acc.length (mCells acc)) := Lib.hid (by rw [hwa]; exact Hown2.out.alloc _)
      have Hba : Hid (Below w.heap.size w wa) := Lib.hid (by rw [hwa]; exact Hb2.out.alloc Hb2.out.size _)
      have ca := cell_of_row wa w2.heap.size 0 _ _ _ Hra.out
      have hsba := Hba.out.size
      clear hwa HS2 HT2 Hown2 Hb2 Hown HTr Hbr HRg
      go_upto_region 9 with (first
        | (go_at_call 13
           refine (HMe.out D dc _ HSa.out).mono ?_
           rintro e w3 ⟨rfl, hb3⟩
           have Hb3 := Lib.hid hb3
           have hs33 := hb3.size
           clear hb3)
        | fail)
      obtain ⟨wb, hwb⟩ : ∃ wb : World, wb = w3.alloc (.cells #[.int .i64 sz, .int .i64 bd] 24) := ⟨_, rfl⟩
      try simp only at hwb ⊢
      rw [← hwb]
      have Hrb : Hid (wb.heap[w3.heap.size]? = some (.cells #[.int .i64 sz, .int .i64 bd] 24 (0, 0))) := Lib.hid (by rw [hwb]; exact heap_alloc_new w3 _)
      have hsb : w3.heap.size < wb.heap.size := by rw [hwb]; simp
      have Hbab : Hid (Below wa.heap.size wa wb) := Lib.hid (by rw [hwb]; exact Hb3.out.alloc Hb3.out.size _)
      have cb := cell_of_row wb w2.heap.size 0 _ _ _ ((Hbab.out.block _ hsa).trans Hra.out)
      clear hwb Hb3 ca
      go_upto_region 10 with (first
        | (go_at_call 14
           refine (HBo.out D dc _ (HSa.out.below Hbab.out)).mono ?_
           rintro e w4 ⟨rfl, hb4⟩
           have Hb4 : Hid (Below wa.heap.size wa w4) := Lib.hid (Hbab.out.trans (hb4.mono Hbab.out.size))
           have Hr4 := Lib.hid ((hb4.block _ hsb).trans Hrb.out)
           have hs4 := Nat.lt_of_lt_of_le hsb hb4.size
           clear hb4 cb)
        | fail)
      try simp only
      have c8 := cell_of_row w4 w2.heap.size 0 _ _ _ ((Hb4.out.block _ hsa).trans Hra.out)
      have c90 := cell_of_row w4 w3.heap.size 0 _ _ _ Hr4.out
      have c91 := cell_of_row w4 w3.heap.size 1 _ _ _ Hr4.out
      have hs24 : w2.heap.size < w4.heap.size := Nat.lt_of_lt_of_le hsa Hb4.out.size
      have A1 : Hid (∀ W, Below w4.heap.size w4 W → Calls Try.prog 15 #[.agg #[.slice D ra.length dc]] W fun e w' => e = .returned (.int .i64 sz) ∧ Below W.heap.size W w') := Lib.hid (fun W hW => HAr.out D dc W ((HSa.out.below Hb4.out).below hW))
      refine wp_region_below w4.heap.size (Nat.le_refl _) (by kernel_rfl) (by kernel_rfl) ?_
      intro I _ F hFc hFb hFs
      have p8 := fun i => (hFc i (w2.heap.size) 0 hs24).trans c8
      have p90 := fun i => (hFc i (w3.heap.size) 0 hs4).trans c90
      have p91 := fun i => (hFc i (w3.heap.size) 1 hs4).trans c91
      repeat (go_big_quiet_step ((first
        | (go_at_call 15; first | (with_reducible exact class_call hFb hFs (Nat.le_refl _) (A1.out _ (hFb _)))))))
      refine wpQuiet_nil ?_
      rintro _ ⟨iq, rfl⟩
      generalize hw5 : F iq = w5
      have Hb5 : Hid (Below wa.heap.size wa w5) := Lib.hid (by rw [← hw5]; exact Hb4.out.trans ((hFb iq).mono Hb4.out.size))
      have Hr5 : Hid (w5.heap[w3.heap.size]? = some (.cells #[.int .i64 sz, .int .i64 bd] 24 (0, 0))) := Lib.hid (by rw [← hw5]; exact ((hFb iq).block _ hs4).trans Hr4.out)
      have hs5 : w3.heap.size < w5.heap.size := by rw [← hw5]; exact Nat.lt_of_lt_of_le hs4 (hFb iq).size
      clear hw5 hFc hFb hFs p8 p90 p91 c8 c90 c91
      have d0 := cell_of_row w5 w3.heap.size 0 _ _ _ Hr5.out
      have d1 := cell_of_row w5 w3.heap.size 1 _ _ _ Hr5.out
      have Hown5 := Lib.hid (ownsRow_below Howna.out Hb5.out)
      have HT5 := Lib.hid (HTa.out.below Hb5.out (by omega))
      have Hbw5 : Hid (Below w.heap.size w w5) := Lib.hid (Hba.out.trans (Hb5.out.mono hsba))
      have hw15 : w1.heap.size ≤ w5.heap.size := by have := Hb5.out.size; omega
      go_upto_region 13 with (first
        | (at_builtin
           refine wpList_append_any _ rfl (.tmp 54) (.tmp 56) _ rfl w1.heap.size 24 i0 _ 2 16 Try.underlying35 hi hz0 hz1 hz2 rfl (by omega) _ acc.length (mCells acc) rfl (Hown5.out.alloc _) _ _ 1 1 [.int .i64 sz, .int .i64 bd] rfl ⟨rfl, fun _ => ⟨_, rfl, Nat.lt_succ_self _, fun j u hu => (by exact news_any _ _ _ j u hu)⟩⟩ (by simp [Value.oneCell']) (by simp only [maxLen]; omega) (by omega) (by simp; omega) ?_
           intro v6 w6 hown6 hg6 hat6
           have Hown6 : Hid (w6.ownsRow w1.heap.size 24 2 v6 (acc ++ [(sz, bd)]).length (mCells (acc ++ [(sz, bd)]))) := Lib.hid (by rw [List.length_append, mCells_snoc]; exact hown6)
           have HT6 := Lib.hid ((HT5.out.alloc _).grown hg6 (fun q hq => by have := own_base Hown5.out q hq; omega))
           have Hb6 : Hid (Below w.heap.size w w6) := Lib.hid (Below.grown (Hbw5.out.alloc Hbw5.out.size _) hg6 (by have := Hbw5.out.size; simp; omega) (fun q hq => by have := own_base Hown5.out q hq; have := Hb1.out.size; omega))
           have hs6 := hg6.size
           simp at hs6
           have Hr6 := Lib.hid ((hg6.block w3.heap.size (by simp; omega) (fun e => by
             have h := Hapart.out _ e.symm
             have h2 : w2.heap.size ≤ w3.heap.size := Nat.le_trans (Nat.le_of_lt hsa) hs33
             omega)).trans ((Below.heap_alloc w5 _ _ hs5).trans Hr5.out))
           have e0 := cell_of_row w6 w3.heap.size 0 _ _ _ Hr6.out
           have e1 := cell_of_row w6 w3.heap.size 1 _ _ _ Hr6.out
           clear hown6 hg6 hat6)
        | fail)
      have hwk : IntKind.i64.wrap (((k + 1 : Nat) : Int) - 1) = (k : Int) := by rw [IntWalk.i64_in _ (by omega)]; omega
      have ha1 : IntKind.i64.wrap (sumA acc + sz) = sumA acc + sz := IntWalk.i64_in _ (by omega)
      have ha2 : IntKind.i64.wrap (sumB acc + bd) = sumB acc + bd := IntWalk.i64_in _ (by omega)
      have hsA : Hid (sumA (acc ++ [(sz, bd)]) = sumA acc + sz ∧ sumB (acc ++ [(sz, bd)]) = sumB acc + bd) := Lib.hid (by simp [sumA, sumB])
      go_quiet (fail)
      go_wp2
      go_roundw
      case rel =>
        refine ⟨k, acc ++ [(sz, bd)], r2, by go_num, by simp; omega, by rw [hsA.out.1], by rw [hsA.out.2], Hown6.out, HT6.out.drewN _, below_drewN Hb6.out _, by simp; omega, Lib.hid (fun q hq => ?_)⟩
        rcases List.mem_append.1 hq with hq | hq
        · exact Hac.out q hq
        · simp at hq
          subst hq
          exact ⟨h4, h5⟩
      case measure => simp [intOf]
end Go.Proofs.Yteehihmjbibebaa
