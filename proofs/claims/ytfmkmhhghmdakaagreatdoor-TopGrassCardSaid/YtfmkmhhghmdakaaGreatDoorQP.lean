/- How an argument that can be read is opened: a slice of integers. -/
import Derived.ProofKit
import Derived.Test.YtfmkmhhghmdakaaGreatDoorQA
import Derived.Test.YtfmkmhhghmdakaaGreatDoorQN
import Derived.Test.YtfmkmhhghmdakaaGreatDoorQL
namespace Go.Proofs.YtfmkmhhghmdakaaGreatDoor
open Go.RowKit Go.Shelf
set_option linter.unusedVariables false
set_option linter.unusedSimpArgs false

set_option maxHeartbeats 16000000 in
set_option maxRecDepth 100000 in
theorem grassLaw (A : Option Addr) (n c : Nat) (zs : List Int) (wz : Int) (w : World) (hn : zs.length = n) (hc : n ≤ c) (hm : c ≤ maxLen) (hw : ∀ z ∈ zs, (Lit.int .i64 z).wf = true) (hA : Lies w A n (zs.map (.int .i64))) (hwz : 0 ≤ wz ∧ wz ≤ 255) :
    Calls Tryz.prog 5 #[.slice A n c, .int .u8 wz] w fun e w' => e = .returned (.bool true) ∧ Below w.heap.size w w' := by
  have hdd : 0 ≤ wz.tmod 3 ∧ wz.tmod 3 ≤ 2 := ⟨Int.tmod_nonneg _ hwz.1, by have := Int.tmod_lt_of_pos wz (show (0 : Int) < 3 by omega); omega⟩
  have hv1 : IntKind.i64.wrap wz = wz := IntWalk.i64_in _ (by omega)
  obtain ⟨d, hd⟩ : ∃ d, wz.tmod 3 = d := ⟨_, rfl⟩
  rw [hd] at hdd
  obtain ⟨y, hy⟩ : ∃ y, 5 + d = y := ⟨_, rfl⟩
  have hy57 : 5 ≤ y ∧ y ≤ 7 := by omega
  have hyw : IntKind.i64.wrap y = y := IntWalk.i64_in _ (by omega)
  have hy1 : IntKind.i64.wrap (y - 1) = y - 1 := IntWalk.i64_in _ (by omega)
  have HN := Lib.hid (new_any A n c zs w hn hc hm hw hA)
  clear hn hc hm hw hA
  go_enter Tryz.func5, Tryz.ntmps5
  go_wp2_with fail
  refine HN.out.mono ?_
  rintro e w1 ⟨g, rfl, hwg, ht1, hb1⟩
  have Ht1 := Lib.hid ht1
  have Hb1 := Lib.hid hb1
  have hg1 := ht1.lt
  have hs1 := hb1.size
  clear ht1 hb1 HN
  go_wp2_with fail
  refine (grassy_any g _ w1 Ht1.out).mono ?_
  rintro e w2 ⟨l, v2, r2, Cb, rfl, hsc, hhy, hl24, ht2, hg2⟩
  obtain ⟨A1, c1, rfl, _, _, _⟩ := own_slice hhy.o
  have Hb2 : Hid (Below w.heap.size w w2) := Lib.hid (below_only Hb1.out hg2 hwg hs1)
  obtain ⟨p, be, kn, no, re, C1, C2, C3, C4, C5, C6, C7⟩ := grassCalls A1 l.length c1 l (some ⟨Cb, 0, none⟩) 3 y w2 hhy.sl hhy.hy hl24 hsc (by omega)
  have H1 := Lib.hid C1
  have H2 := Lib.hid C2
  have H3 := Lib.hid C3
  have H4 := Lib.hid C4
  have H5 := Lib.hid C5
  have H6 := Lib.hid C6
  have H7 := Lib.hid C7
  have hs2 := Hb2.out.size
  clear C1 C2 C3 C4 C5 C6 C7 hhy hsc hl24 ht2 hg2
  generalize l.length = nl at *
  have HL2 : Hid (RBs w2 []) := Lib.hid (fun x hx => by cases hx)
  have Hc2 : Hid (Below w2.heap.size w2 w2) := Lib.hid (Below.refl _ _)
  have hz2 : w2.heap.size ≤ w2.heap.size := Nat.le_refl _
  go_upto_region 5 with (first
    | (go_at_call 30
       refine (H1.out _ Hc2.out).mono ?_
       rintro e wq0 ⟨vq0, rfl, hownq0, hbq0⟩
       obtain ⟨Dq0, kq0, rfl, hq0⟩ := SlR.of_own hownq0
       have HLq0 := Lib.hid (HL2.out.below hbq0)
       have Hsq0 : Hid (SlR wq0 Dq0 p.length kq0 p) := Lib.hid hq0
       have Hcq0 : Hid (Below w2.heap.size w2 wq0) := Lib.hid (Hc2.out.trans (hbq0.mono hz2))
       clear hownq0 hbq0 hq0)
    | fail)
  obtain ⟨wa, hwa⟩ : ∃ wa : World, wa = wq0.alloc (.cells #[.slice Dq0 p.length kq0] 33) := ⟨_, rfl⟩
  try dsimp only
  rw [← hwa]
  have HLa := Lib.hid (HLq0.out.push Dq0 p.length kq0 p Hsq0.out)
  rw [← hwa] at HLa
  have Hca : Hid (Below w2.heap.size w2 wa) := Lib.hid (by rw [hwa]; exact Hcq0.out.alloc Hcq0.out.size _)
  have hza := Hca.out.size
  clear hwa HLq0 Hsq0 Hcq0 HL2 Hc2 hz2
  clear hd hy hv1
  go_upto_region 6 with (first
    | (go_at_call 31
       refine (H2.out _ Hca.out).mono ?_
       rintro e wq1 ⟨vq1, rfl, hownq1, hbq1⟩
       obtain ⟨Dq1, kq1, rfl, hq1⟩ := SlR.of_own hownq1
       have HLq1 := Lib.hid (HLa.out.below hbq1)
       have Hsq1 : Hid (SlR wq1 Dq1 be.length kq1 be) := Lib.hid hq1
       have Hcq1 : Hid (Below w2.heap.size w2 wq1) := Lib.hid (Hca.out.trans (hbq1.mono hza))
       clear hownq1 hbq1 hq1)
    | fail)
  obtain ⟨wb, hwb⟩ : ∃ wb : World, wb = wq1.alloc (.cells #[.slice Dq1 be.length kq1] 33) := ⟨_, rfl⟩
  try dsimp only
  rw [← hwb]
  have HLb := Lib.hid (HLq1.out.push Dq1 be.length kq1 be Hsq1.out)
  rw [← hwb] at HLb
  have Hcb : Hid (Below w2.heap.size w2 wb) := Lib.hid (by rw [hwb]; exact Hcq1.out.alloc Hcq1.out.size _)
  have hzb := Hcb.out.size
  clear hwb HLq1 Hsq1 Hcq1 HLa Hca hza
  go_upto_region 7 with (first
    | (go_at_call 32
       refine (H3.out _ Hcb.out).mono ?_
       rintro e wq2 ⟨vq2, rfl, hownq2, hbq2⟩
       obtain ⟨Dq2, kq2, rfl, hq2⟩ := SlR.of_own hownq2
       have HLq2 := Lib.hid (HLb.out.below hbq2)
       have Hsq2 : Hid (SlR wq2 Dq2 kn.length kq2 kn) := Lib.hid hq2
       have Hcq2 : Hid (Below w2.heap.size w2 wq2) := Lib.hid (Hcb.out.trans (hbq2.mono hzb))
       clear hownq2 hbq2 hq2)
    | fail)
  obtain ⟨wc, hwc⟩ : ∃ wc : World, wc = wq2.alloc (.cells #[.slice Dq2 kn.length kq2] 33) := ⟨_, rfl⟩
  try dsimp only
  rw [← hwc]
  have HLc := Lib.hid (HLq2.out.push Dq2 kn.length kq2 kn Hsq2.out)
  rw [← hwc] at HLc
  have Hcc : Hid (Below w2.heap.size w2 wc) := Lib.hid (by rw [hwc]; exact Hcq2.out.alloc Hcq2.out.size _)
  have hzc := Hcc.out.size
  clear hwc HLq2 Hsq2 Hcq2 HLb Hcb hzb
  go_upto_region 8 with (first
    | (go_at_call 33
       refine (H4.out _ Hcc.out).mono ?_
       rintro e wq3 ⟨vq3, rfl, hownq3, hbq3⟩
       obtain ⟨Dq3, kq3, rfl, hq3⟩ := SlR.of_own hownq3
       have HLq3 := Lib.hid (HLc.out.below hbq3)
       have Hsq3 : Hid (SlR wq3 Dq3 no.length kq3 no) := Lib.hid hq3
       have Hcq3 : Hid (Below w2.heap.size w2 wq3) := Lib.hid (Hcc.out.trans (hbq3.mono hzc))
       clear hownq3 hbq3 hq3)
    | fail)
  obtain ⟨wd, hwd⟩ : ∃ wd : World, wd = wq3.alloc (.cells #[.slice Dq3 no.length kq3] 33) := ⟨_, rfl⟩
  try dsimp only
  rw [← hwd]
  have HLd := Lib.hid (HLq3.out.push Dq3 no.length kq3 no Hsq3.out)
  rw [← hwd] at HLd
  have Hcd : Hid (Below w2.heap.size w2 wd) := Lib.hid (by rw [hwd]; exact Hcq3.out.alloc Hcq3.out.size _)
  have hzd := Hcd.out.size
  clear hwd HLq3 Hsq3 Hcq3 HLc Hcc hzc
  go_upto_region 10 with fail
  have cx4 : wd.cell? ⟨wq1.heap.size, 0, none⟩ = some (.slice Dq1 be.length kq1) := (HLd.out _ (.tail _ (.tail _ (.head _)))).c0
  have cy4 : wd.cell? ⟨wq3.heap.size, 0, none⟩ = some (.slice Dq3 no.length kq3) := (HLd.out _ (.head _)).c0
  go_upto_region 11 with (first
    | (go_at_call 34
       refine (H5.out _ Dq1 kq1 Dq3 kq3 (HLd.out _ (.tail _ (.tail _ (.head _)))).sl (HLd.out _ (.head _)).sl).mono ?_
       rintro e wq4 ⟨vq4, rfl, hownq4, hbq4⟩
       obtain ⟨Dq4, kq4, rfl, hq4⟩ := SlR.of_own hownq4
       have HLq4 := Lib.hid (HLd.out.below hbq4)
       have Hsq4 : Hid (SlR wq4 Dq4 re.length kq4 re) := Lib.hid hq4
       have Hcq4 : Hid (Below w2.heap.size w2 wq4) := Lib.hid (Hcd.out.trans (hbq4.mono hzd))
       clear hownq4 hbq4 hq4)
    | fail)
  obtain ⟨we, hwe⟩ : ∃ we : World, we = wq4.alloc (.cells #[.slice Dq4 re.length kq4] 33) := ⟨_, rfl⟩
  try dsimp only
  rw [← hwe]
  have HLe := Lib.hid (HLq4.out.push Dq4 re.length kq4 re Hsq4.out)
  rw [← hwe] at HLe
  have Hce : Hid (Below w2.heap.size w2 we) := Lib.hid (by rw [hwe]; exact Hcq4.out.alloc Hcq4.out.size _)
  have hze := Hce.out.size
  clear cx4 cy4 hwe HLq4 Hsq4 Hcq4 HLd Hcd hzd
  have cx5 : we.cell? ⟨wq4.heap.size, 0, none⟩ = some (.slice Dq4 re.length kq4) := (HLe.out _ (.head _)).c0
  have cy5 : we.cell? ⟨wq2.heap.size, 0, none⟩ = some (.slice Dq2 kn.length kq2) := (HLe.out _ (.tail _ (.tail _ (.head _)))).c0
  go_upto_region 12 with (first
    | (go_at_call 25
       refine (H6.out _ Dq4 kq4 Dq2 kq2 (HLe.out _ (.head _)).sl (HLe.out _ (.tail _ (.tail _ (.head _)))).sl).mono ?_
       rintro e wq5 ⟨vq5, rfl, hownq5, hbq5⟩
       obtain ⟨Dq5, kq5, rfl, hq5⟩ := SlR.of_own hownq5
       have HLq5 := Lib.hid (HLe.out.below hbq5)
       have Hsq5 : Hid (SlR wq5 Dq5 p.length kq5 p) := Lib.hid hq5
       have Hcq5 : Hid (Below w2.heap.size w2 wq5) := Lib.hid (Hce.out.trans (hbq5.mono hze))
       clear hownq5 hbq5 hq5)
    | fail)
  obtain ⟨wf, hwf⟩ : ∃ wf : World, wf = wq5.alloc (.cells #[.slice Dq5 p.length kq5] 33) := ⟨_, rfl⟩
  try dsimp only
  rw [← hwf]
  have HLf := Lib.hid (HLq5.out.push Dq5 p.length kq5 p Hsq5.out)
  rw [← hwf] at HLf
  have Hcf : Hid (Below w2.heap.size w2 wf) := Lib.hid (by rw [hwf]; exact Hcq5.out.alloc Hcq5.out.size _)
  have hzf := Hcf.out.size
  clear cx5 cy5 hwf HLq5 Hsq5 Hcq5 HLe Hce hze
  have cx9 : wf.cell? ⟨wq0.heap.size, 0, none⟩ = some (.slice Dq0 p.length kq0) := (HLf.out _ (.tail _ (.tail _ (.tail _ (.tail _ (.tail _ (.head _))))))).c0
  go_upto_region 13 with (first
    | (go_at_call 35
       refine (H7.out _ Dq0 kq0 Hcf.out (HLf.out _ (.tail _ (.tail _ (.tail _ (.tail _ (.tail _ (.head _))))))).sl).mono ?_
       rintro e w8 ⟨u1, u2, u3, rfl, hu1, -, -, hb8⟩
       have HL8 := Lib.hid (HLf.out.below hb8)
       have HU8 := Lib.hid (SlR.ofR hu1)
       have Hc8 : Hid (Below w2.heap.size w2 w8) := Lib.hid (Hcf.out.trans (hb8.mono hzf))
       clear hu1 hb8)
    | fail)
  obtain ⟨w9, hw9⟩ : ∃ w9 : World, w9 = w8.alloc (.cells #[.slice u1.a p.length u1.c, .slice u2.a 0 u2.c, .slice u3.a 0 u3.c] 79) := ⟨_, rfl⟩
  try simp only [List.length_nil]
  rw [← hw9]
  have Hb89 : Hid (Below w8.heap.size w8 w9) := Lib.hid (by rw [hw9]; exact (by repeat' (first | with_reducible exact Below.refl _ _ | with_reducible refine below_drewN ?_ _ | with_reducible refine Below.drew ?_ | with_reducible refine Below.alloc ?_ ?_ _ | with_reducible refine Below.setCell ?_ ?_ _ | with_reducible refine Below.trans ?_ (Below.mono (by with_reducible assumption) ?_) | (simp; done) | (simp; omega) | omega)))
  have HL9 := Lib.hid (HL8.out.below Hb89.out)
  have HU9 := Lib.hid (HU8.out.below Hb89.out)
  have hT9 : w9.heap[w8.heap.size]? = some (.cells #[.slice u1.a p.length u1.c, .slice u2.a 0 u2.c, .slice u3.a 0 u3.c] 79 (0, 0)) := by rw [hw9]; exact heap_alloc_new w8 _
  have HT9 := Lib.hid hT9
  have hs9 : w8.heap.size < w9.heap.size := by rw [hw9]; simp
  have Hc9 : Hid (Below w2.heap.size w2 w9) := Lib.hid (Hc8.out.trans (Hb89.out.mono Hc8.out.size))
  clear cx9 hw9 HL8 HU8 Hc8 Hb89 HLf Hcf hzf
  have b9 : w9.cell? ⟨wq0.heap.size, 0, none⟩ = some (.slice Dq0 p.length kq0) := (HL9.out _ (.tail _ (.tail _ (.tail _ (.tail _ (.tail _ (.head _))))))).c0
  have b19 : w9.cell? ⟨wq5.heap.size, 0, none⟩ = some (.slice Dq5 p.length kq5) := (HL9.out _ (.head _)).c0
  have t0 := cell_of_row _ _ 0 _ _ _ hT9
  have t2 := cell_of_row _ _ 2 _ _ _ hT9
  clear hT9
  have HS1 := Lib.hid (fun W (h : Below w9.heap.size w9 W) => show Calls Tryz.prog 36 #[.agg #[.slice Dq0 p.length kq0], .agg #[.slice Dq5 p.length kq5]] W fun e w' => e = .returned (.bool true) ∧ Below W.heap.size W w' from by
    have h1 := sameP_any Dq0 Dq5 p.length kq0 p.length kq5 p p W ((HL9.out _ (.tail _ (.tail _ (.tail _ (.tail _ (.tail _ (.head _))))))).sl.below h) ((HL9.out _ (.head _)).sl.below h)
    rw [decide_eq_true rfl] at h1
    exact h1)
  have HS2 := Lib.hid (fun W (h : Below w9.heap.size w9 W) => show Calls Tryz.prog 36 #[.agg #[.slice u1.a p.length u1.c], .agg #[.slice Dq0 p.length kq0]] W fun e w' => e = .returned (.bool true) ∧ Below W.heap.size W w' from by
    have h1 := sameP_any u1.a Dq0 p.length u1.c p.length kq0 p p W (HU9.out.below h) ((HL9.out _ (.tail _ (.tail _ (.tail _ (.tail _ (.tail _ (.head _))))))).sl.below h)
    rw [decide_eq_true rfl] at h1
    exact h1)
  go_wp2_with (first
    | (go_at_call_of 36 (Value.agg #[.slice u1.a p.length u1.c])
       refine (HS2.out _ Hd10.out).mono ?_
       rintro e w11 ⟨rfl, hb11⟩
       have Hd11 := Lib.hid (Hd10.out.trans (hb11.mono Hd10.out.size))
       have e2 := cell_of_row _ _ 2 _ _ _ ((Hd11.out.block w8.heap.size hs9).trans HT9.out)
       clear hb11)
    | (go_at_call 36
       refine (HS1.out _ (Below.refl _ _)).mono ?_
       rintro e w10 ⟨rfl, hb10⟩
       have Hd10 : Hid (Below w9.heap.size w9 w10) := Lib.hid hb10
       have d9 := (HL9.out.below hb10 _ (.tail _ (.tail _ (.tail _ (.tail _ (.tail _ (.head _))))))).c0
       have d0 := cell_of_row _ _ 0 _ _ _ ((hb10.block w8.heap.size hs9).trans HT9.out)
       clear hb10 b9 b19 t0 t2)
    | (go_at_call 17
       refine (awakeT_any _).mono ?_
       rintro e w12 ⟨rfl, hb12⟩
       have Hd12 := Lib.hid (Hd11.out.trans (hb12.mono Hd11.out.size))
       clear hb12)
    | fail)
  go_ret
  exact ⟨rfl, Hb2.out.trans ((Hc9.out.trans (Hd12.out.mono Hc9.out.size)).mono hs2)⟩
end Go.Proofs.YtfmkmhhghmdakaaGreatDoor
namespace Go.Proofs.YtfmkmhhghmdakaaGreatDoor
open Go.ChangeShapes Go.WideShapes Go.ChangeAt Go.RowKit
set_option linter.unusedVariables false

theorem open_lies {H : Type} {enc : TypeId × Value → H} {P : Program} {W : World} {r : Reach} {base : Nat} {t e : TypeId} {k : IntKind} {v : Value} {d : DataW H} {p : List MemPlace}
    (ht : P.underlying t = some (.slice e)) (he : P.underlying e = some (.int k)) (hC : P.cellsOf e = 1) (hv : Value.okWide P W r base t v) (h : DataW.Trod enc P W 0 (fun _ => true) true t v d p) :
    ∃ (A : Option Addr) (n c : Nat) (zs : List Int), v = .slice A n c ∧ zs.length = n ∧ (n ≤ c ∧ c ≤ maxLen) ∧ Lies W A n (zs.map (.int k)) ∧ ∀ z ∈ zs, (Lit.int k z).wf = true := by
  obtain ⟨A, n, c, rfl⟩ := okWide_slice ht hv
  obtain ⟨fuel, hf⟩ := h
  rcases open_ints ht he hC hf with ⟨hcs, _⟩ | ⟨x, l, c', zs, hcs, _, hl, hm, hz, _, hcell, hwz⟩
  · simp [Value.cells] at hcs
    obtain ⟨rfl, rfl, rfl⟩ := hcs
    exact ⟨none, 0, 0, [], rfl, rfl, ⟨Nat.le_refl _, Nat.zero_le _⟩, .inl rfl, fun z hz => by cases hz⟩
  · simp [Value.cells] at hcs
    obtain ⟨rfl, rfl, rfl⟩ := hcs
    have hz' : zs.length = c := by simpa using hz
    refine ⟨some x, n, c, zs.take n, rfl, by rw [List.length_take]; omega, ⟨hl, hm⟩, ?_, fun z hz => hwz z (List.mem_of_mem_take hz)⟩
    by_cases h0 : n = 0
    · exact .inl h0
    · obtain ⟨b, off, spot⟩ := x
      have hc0 := hcell 0 (by omega)
      have hspot : spot = none := by simpa [Addr.add] using World.cell?_spot hc0
      subst hspot
      have hb := World.block_lt_of_cell? W _ hc0
      rw [add_none] at hb
      refine .inr ⟨b, off, rfl, hb, fun j u hu => ?_⟩
      have hj : j < n := by
        rcases Nat.lt_or_ge j n with h | h
        · exact h
        · rw [List.getElem?_eq_none (by simp; omega)] at hu; cases hu
      have := hcell j (by omega)
      rw [add_none] at this
      rw [this]
      rw [List.getElem?_map, List.getElem?_take, if_pos hj] at hu
      rw [List.getElem?_eq_getElem (by omega)] at hu
      rw [List.getD_eq_getElem?_getD, List.getElem?_eq_getElem (by omega)]
      simpa using hu
end Go.Proofs.YtfmkmhhghmdakaaGreatDoor
