import Derived.Test.YtfmkmhhghmdakaaGreatDoorRU
import Derived.Test.YtfmkmhhghmdakaaGreatDoorRV
import Derived.Test.YtfmkmhhghmdakaaGreatDoorRZ
import Derived.Test.YtfmkmhhghmdakaaGreatDoorSA
import Derived.Test.YtfmkmhhghmdakaaGreatDoorSB
namespace Go.Proofs.YtfmkmhhghmdakaaGreatDoor
open Go.RowKit Go.Shelf
set_option linter.unusedVariables false
set_option linter.unusedSimpArgs false
set_option maxHeartbeats 64000000
set_option maxRecDepth 100000
def cropB (i : Nat) : ByteArray := match i with
  | 0 => ⟨#[98, 97, 114, 108, 101, 121]⟩
  | 1 => ⟨#[99, 108, 111, 118, 101, 114]⟩
  | 2 => ⟨#[103, 114, 97, 115, 115]⟩
  | 3 => ⟨#[109, 97, 105, 122, 101]⟩
  | 4 => ⟨#[111, 97, 116, 115]⟩
  | 5 => ⟨#[114, 121, 101]⟩
  | 6 => ⟨#[118, 101, 116, 99, 104]⟩
  | 7 => ⟨#[119, 104, 101, 97, 116]⟩
  | _ => ⟨#[]⟩
theorem cropN_B (i : Nat) (h : i < 8) : cropN i = .string (cropB i) := by
  rcases (show i = 0 ∨ i = 1 ∨ i = 2 ∨ i = 3 ∨ i = 4 ∨ i = 5 ∨ i = 6 ∨ i = 7 by omega) with rfl | rfl | rfl | rfl | rfl | rfl | rfl | rfl <;> rfl
theorem cropB_letters (i : Nat) (h : i < 8) : lettersB (cropB i) = true := by
  rcases (show i = 0 ∨ i = 1 ∨ i = 2 ∨ i = 3 ∨ i = 4 ∨ i = 5 ∨ i = 6 ∨ i = 7 by omega) with rfl | rfl | rfl | rfl | rfl | rfl | rfl | rfl <;> decide
theorem cropB_less (i : Nat) (h : i + 1 < 8) : leqS (cropB (i + 1)) (cropB i) = false := by
  rcases (show i = 0 ∨ i = 1 ∨ i = 2 ∨ i = 3 ∨ i = 4 ∨ i = 5 ∨ i = 6 by omega) with rfl | rfl | rfl | rfl | rfl | rfl | rfl <;> decide +kernel
def cpK : Nat → List (Int × Int) → List Cp
  | _, [] => []
  | i, x :: t => ⟨cropB i, x.1, x.2⟩ :: cpK (i + 1) t
theorem cpK_len : ∀ (l : List (Int × Int)) (i : Nat), (cpK i l).length = l.length
  | [], _ => rfl
  | x :: t, i => by simp [cpK, cpK_len t]
theorem cpK_get : ∀ (l : List (Int × Int)) (i j : Nat) (h : j < l.length), (cpK i l)[j]'(by rw [cpK_len]; exact h) = ⟨cropB (i + j), l[j].1, l[j].2⟩
  | x :: t, i, 0, _ => by simp [cpK]
  | x :: t, i, j + 1, h => by
    have := cpK_get t (i + 1) j (by simpa using h)
    simp only [cpK, List.getElem_cons_succ]
    rw [this, show i + 1 + j = i + (j + 1) by omega]
theorem cpK_cells : ∀ (l : List (Int × Int)) (i : Nat), i + l.length ≤ 8 → cpFrom i l = kCells (cpK i l)
  | [], _, _ => rfl
  | x :: t, i, h => by
    have ih := cpK_cells t (i + 1) (by simp at h; omega)
    have e : kCells (cpK i (x :: t)) = [.string (cropB i), .int .i64 x.1, .int .i64 x.2] ++ kCells (cpK (i + 1) t) := by simp [kCells, cpK]
    rw [e, ← ih]
    simp only [cpFrom, cpC]
    rw [cropN_B i (by simp at h; omega)]
theorem cpK_ok (l : List (Int × Int)) (h8 : l.length ≤ 8) (hb : ∀ x ∈ l, (0 ≤ x.1 ∧ x.1 ≤ 2) ∧ 0 ≤ x.2 ∧ x.2 ≤ 31) : cropsB (cpK 0 l) := by
  refine ⟨by rw [cpK_len]; omega, fun x hx => ?_, fun i h => ?_⟩
  · obtain ⟨j, hj, rfl⟩ := List.getElem_of_mem hx
    have hj' : j < l.length := by rw [cpK_len] at hj; exact hj
    rw [cpK_get l 0 j hj', Nat.zero_add]
    obtain ⟨h1, h2⟩ := hb l[j] (List.getElem_mem hj')
    exact ⟨cropB_letters j (by omega), ⟨h1.1, by dsimp only; omega⟩, h2⟩
  · have hi : i + 1 < l.length := by rw [cpK_len] at h; exact h
    rw [cpK_get l 0 i (by omega), cpK_get l 0 (i + 1) hi, Nat.zero_add, Nat.zero_add]
    exact cropB_less i (by omega)
theorem SlC.ofOwn {w : World} {base c : Nat} {A : Option Addr} {l : List (Int × Int)} (h : w.ownsRow base 91 3 (.slice A l.length c) l.length (cpCells l)) (h8 : l.length ≤ 8) : SlC w A l.length c (cpK 0 l) := by
  obtain ⟨A', c', e, h1, h2, h3⟩ := own_slice h
  injection e with e1 e2 e3
  subst e1 e3
  have e : cpCells l = kCells (cpK 0 l) := cpK_cells l 0 (by omega)
  exact ⟨cpK_len l 0, h2, h3, by rw [← e]; exact h1⟩
structure LnsQ (nc : Nat) (B : List Int) (L : LL) : Prop where
  rg : ∀ x ∈ L, RgB B x.1.rg
  ne : ∀ x ∈ L, 0 < x.1.rg.length
  cr : ∀ x ∈ L, 0 ≤ x.1.cr ∧ x.1.cr < (nc : Int)
  dis : (lns L).Pairwise fun a b => ∀ u v, inL a.rg u v = true → inL b.rg u v = false
  len : L.length ≤ 2
theorem lines_q {R : List (List R4)} {nc k : Nat} {L : LL} (hR : PcOk R) (h : LsOk R nc k (lns L)) (hk : k ≤ 2) : ∃ B : List Int, B.length ≤ 2 ∧ LnsQ nc B L := by
  have hl := h.len
  rw [lns_len] at hl
  refine ⟨(lns L).map fun x => x.pc - 1, by rw [List.length_map, lns_len]; omega, fun x hx => ?_, fun x hx => ?_, fun x hx => ?_, h.dis, by omega⟩
  · have hx' : x.1 ∈ lns L := List.mem_map_of_mem hx
    have ho := h.ok x.1 hx'
    obtain ⟨p, hp, h1, h2⟩ := ho.pc
    refine ⟨ho.reg.ins, ho.reg.canon, fun u v huv => ⟨x.1.pc - 1, List.mem_map_of_mem (f := fun x : Ln => x.pc - 1) hx', ?_⟩⟩
    have h3 := (hR.at' p hp).in u v (h2 u v huv)
    omega
  · exact List.length_pos_iff.2 (h.ok x.1 (List.mem_map_of_mem hx)).ne
  · exact (h.ok x.1 (List.mem_map_of_mem hx)).cr
theorem LnsQ.apart {nc : Nat} {B : List Int} {L : LL} (h : LnsQ nc B L) (i j : Nat) (hi : i < L.length) (hj : j < L.length) (hne : i ≠ j) (u v : Int) (h1 : inL L[i].1.rg u v = true) : inL L[j].1.rg u v = false := by
  have key := List.pairwise_iff_getElem.1 h.dis
  have hI : i < (lns L).length := by rw [lns_len]; exact hi
  have hJ : j < (lns L).length := by rw [lns_len]; exact hj
  rcases Nat.lt_or_ge i j with h2 | h2
  · have := key i j hI hJ h2 u v
    rw [lns_get' L i hi, lns_get' L j hj] at this
    exact this h1
  · rw [Bool.eq_false_iff]
    intro h3
    have := key j i hJ hI (by omega) u v
    rw [lns_get' L i hi, lns_get' L j hj] at this
    rw [this h3] at h1; cases h1
theorem LnsQ.r {nc : Nat} {B : List Int} {L : LL} (h : LnsQ nc B L) (hB : B.length ≤ 2) : LnsR nc L := by
  refine ⟨h.cr, fun x hx => (h.rg x hx).valid hB, fun i j hi hj => ?_, by have := h.len; omega⟩
  have hx := h.rg _ (List.getElem_mem hi)
  have hz := h.rg _ (List.getElem_mem (show j < L.length by omega))
  refine (meets_ins hx.ins hz.ins (hx.valid hB) (hz.valid hB)).2 fun u v huv => ?_
  have := h.apart i j hi (by omega) (by omega) u v huv.1
  rw [this] at huv
  cases huv.2
theorem LnsQ.one {nc : Nat} {B : List Int} {L : LL} (h : LnsQ nc B L) {z x : Ln} (hz : z ∈ lns L) (hx : x ∈ lns L) (u v : Int) (h1 : inL z.rg u v = true) (h2 : inL x.rg u v = true) : z = x := by
  obtain ⟨i, hi, rfl⟩ := List.mem_iff_getElem.1 hz
  obtain ⟨j, hj, rfl⟩ := List.mem_iff_getElem.1 hx
  have hi' : i < L.length := by rw [lns_len] at hi; exact hi
  have hj' : j < L.length := by rw [lns_len] at hj; exact hj
  by_cases e : i = j
  · subst e; rfl
  · rw [lns_get' L i hi'] at h1
    rw [lns_get' L j hj'] at h2
    rw [h.apart i j hi' hj' e u v h1] at h2; cases h2
theorem both30 {A B : Option Addr} {k1 k2 : Nat} {a b R : List R4} (ha : Reg 30 90 a) (hb : Reg 30 90 b) (hR : chooseP andB a b = R) (hl : R.length ≤ 120) (W : World) (h1 : SlR W A a.length k1 a) (h2 : SlR W B b.length k2 b) :
    Calls Tryz.prog 25 #[.agg #[.slice A a.length k1], .agg #[.slice B b.length k2]] W (RegPost W (R, 0)) := by
  have h3 := both_any A B _ k1 _ k2 _ _ W h1 h2
  have e : combineP andB a b = (R, 0) := by
    unfold combineP
    rw [ha.valid (by omega) (by omega), hb.valid (by omega) (by omega), Bool.and_self, if_pos rfl, hR, if_neg (by omega)]
  rw [e] at h3
  exact h3
structure RotC (w : World) (A : Option Addr) (n c : Nat) (C : Option Addr) (k cc : Nat) (K : List Cp) (N : Nat) (t : Int) (rp : List R4) (x : Ln × LV) (yes no op sm mi bo : List R4) (f : Int) : Prop where
  ev : ∀ W, Below w.heap.size w W → Calls Tryz.prog 35 #[sameV t, .agg #[.int .i64 x.1.pc, .slice x.2.a x.1.rg.length x.2.c, .int .i64 x.1.cr, .int .i64 x.1.sch], .int .i64 4, .slice C k cc, .slice A n c, .slice none 0 0, .int .i64 0] W (EvPost W yes no op)
  fam : ∀ W, Below w.heap.size w W → Calls Tryz.prog 40 #[.slice C k cc, .int .i64 x.1.cr] W fun e w' => e = .returned (.tuple #[.int .i64 f, .int .i64 0]) ∧ Below W.heap.size W w'
  same : ∀ W, Below w.heap.size w W → Calls Tryz.prog 41 #[.slice A n c, .slice C k cc, .int .i64 (5 - t), .int .i64 3] W (RegPost W (sm, 0))
  mine : ∀ W, Below w.heap.size w W → Calls Tryz.prog 42 #[.slice A n c, .slice C k cc, .int .i64 3, .int .i64 f] W (RegPost W (mi, 0))
  b1 : ∀ W A1 k1 A2 k2, SlR W A1 sm.length k1 sm → SlR W A2 mi.length k2 mi → Calls Tryz.prog 25 #[.agg #[.slice A1 sm.length k1], .agg #[.slice A2 mi.length k2]] W (RegPost W (bo, 0))
  b2 : ∀ W A1 k1 A2 k2, SlR W A1 bo.length k1 bo → SlR W A2 x.1.rg.length k2 x.1.rg → Calls Tryz.prog 25 #[.agg #[.slice A1 bo.length k1], .agg #[.slice A2 x.1.rg.length k2]] W (RegPost W (yes, 0))
  b3 : arK K x.1.cr = true → ∀ W A1 k1 A2 k2, SlR W A1 rp.length k1 rp → SlR W A2 x.1.rg.length k2 x.1.rg → Calls Tryz.prog 25 #[.agg #[.slice A1 rp.length k1], .agg #[.slice A2 x.1.rg.length k2]] W (RegPost W (yes, 0))
theorem rotCalls (A : Option Addr) (n c : Nat) (l : RcL) (C : Option Addr) (k cc : Nat) (K : List Cp) (N : Nat) (t : Int) (L : LL) (B : List Int) (x : Ln × LV) (w : World) (hA : SlRc w A n c l) (hl : HyW (k : Int) (rcs l)) (hn : n ≤ 100) (hk : k ≤ 8) (hC : SlC w C k cc K) (hK : cropsB K) (hN : 1 ≤ N ∧ N ≤ 3) (ht : t = (N : Int) + 1) (hB : B.length ≤ 2) (hL : LnsQ k B L) (hx : x ∈ L) (hS : SlR w x.2.a x.1.rg.length x.2.c x.1.rg) :
    ∃ (yes no op sm mi bo : List R4) (f : Int), RotC w A n c C k cc K N t (canonP (repP (famK K) (lns (arL K L)) (rcs l) (4 - (N : Int)) (N - 1))) x yes no op sm mi bo f := by
  have hP := hL.rg x hx
  have hcr := hL.cr x hx
  have hKl := hC.len
  obtain ⟨f, hf⟩ : ∃ f, famK K x.1.cr = f := ⟨_, rfl⟩
  have hfb : 0 ≤ f ∧ f ≤ 40 := by rw [← hf]; exact famK_bd hK x.1.cr hcr.1 (by omega)
  have hyr := yes_rgb hl hP 4 (fun v => decide (famK K v = f)) N
  have hnr := no_rgb hl hP 4 (fun v => decide (famK K v = f)) N
  have hor := (hP.notB hyr.ins).notB hnr.ins
  obtain ⟨Bs, hBs, hsb⟩ := sameAll_inb hl (famK K) (4 - (N : Int)) (N - 1) 41
  have hsm := canon_rgb (sameAll_in hl (famK K) (4 - (N : Int)) (N - 1) 41) hsb
  obtain ⟨Bm, hBm, hmb⟩ := rectsW_inb hl 3
  have hmi := canon_rgb (rectsW_in hl 3 fun v => decide (famK K v = f)) (hmb _)
  have hbo := hsm.andB hmi.ins
  have hye := same_here hl (famK K) hP N hN.1 f hfb
  have hyl := hyr.len
  have hol := hbo.len
  have hel := hor.len
  have hnl := hnr.len
  refine ⟨sameYes x.1.rg (rcs l) 4 (fun v => decide (famK K v = f)) N, sameNo x.1.rg (rcs l) 4 (fun v => decide (famK K v = f)) N, chooseP notB (chooseP notB x.1.rg (sameYes x.1.rg (rcs l) 4 (fun v => decide (famK K v = f)) N)) (sameNo x.1.rg (rcs l) 4 (fun v => decide (famK K v = f)) N), canonP (sameAll (famK K) (rcs l) (4 - (N : Int)) (N - 1) 41), canonP (rectsP (rcs l) 3 fun v => decide (famK K v = f)), chooseP andB (canonP (sameAll (famK K) (rcs l) (4 - (N : Int)) (N - 1) 41)) (canonP (rectsP (rcs l) 3 fun v => decide (famK K v = f))), f, ⟨?_, ?_, ?_, ?_, ?_, ?_, ?_⟩⟩
  · intro W h
    refine evalW_any A n c C k cc x.2.a x.1.rg.length x.2.c 4 x.1.pc x.1.cr x.1.sch t _ _ _ W (by omega) (by omega) (by omega) (fun W2 h2 => evalPl_any A n c C k cc x.2.a x.1.rg.length x.2.c 4 x.1.pc x.1.cr x.1.sch t _ _ _ W2 (fun W3 h3 => atomSm_any A n c C k cc x.2.a x.1.rg.length x.2.c 4 x.1.pc x.1.cr x.1.sch t _ _ _ W3 (fun W4 h4 => ?_))) (fun W2 h2 => checkPl_any A n c l C k cc K x.2.a x.1.rg.length x.2.c x.1.rg 4 x.1.pc x.1.cr x.1.sch t W2 (hA.below (h.trans (h2.mono h.size))) hl (hC.below (h.trans (h2.mono h.size))) hK (hS.below (h.trans (h2.mono h.size))) (hP.valid hB) (by omega) hcr (by omega))
    have hb4 := h.trans ((h2.trans ((h3.trans (h4.mono h3.size)).mono h2.size)).mono h.size)
    have h5 := sameTm_any A n c l C k cc K x.2.a x.1.rg.length x.2.c x.1.rg 4 x.1.pc x.1.cr x.1.sch t N B W4 (hA.below hb4) hl hn hk (hC.below hb4) (hS.below hb4) hP hB (by omega) hcr hN ht
    rw [hf] at h5
    exact h5
  · intro W h
    have h1 := cropFam_any C k cc K x.1.cr W (hC.below h) hK hcr.1 hcr.2
    rw [hf] at h1
    exact h1
  · intro W h
    have h1 := sameW_any A n c l C k cc K (4 - (N : Int)) (N - 1) W (hA.below h) hl hn hk (hC.below h) hK (by omega)
    rw [show 4 - (N : Int) + ((N - 1 : Nat) : Int) = 3 by omega] at h1
    rw [show 5 - t = 4 - (N : Int) by omega]
    exact h1
  · intro W h
    exact familyW_any A n c l C k cc K 3 f W (hA.below h) hl hn hk (hC.below h) hK (by omega) hfb
  · intro W A1 k1 A2 k2 h1 h2
    exact both30 (hsm.reg hBs) (hmi.reg hBm) rfl (by omega) W h1 h2
  · intro W A1 k1 A2 k2 h1 h2
    exact both30 (hbo.reg hBs) (hP.reg hB) hye (by omega) W h1 h2
  · intro har W A1 k1 A2 k2 h1 h2
    have hxm : x.1 ∈ lns (arL K L) := List.mem_map_of_mem (List.mem_filter.2 ⟨hx, har⟩)
    have hlb : ∀ z ∈ lns (arL K L), RgB B z.rg := fun z hz => by
      obtain ⟨y, hy, rfl⟩ := List.mem_map.1 hz
      exact hL.rg y (List.mem_filter.1 hy).1
    have hpa := same_part hl (famK K) hxm hP (fun z hz => (hlb z hz).ins) (fun z hz u v h3 h4 => by
      obtain ⟨y, hy, rfl⟩ := List.mem_map.1 hz
      exact hL.one (List.mem_map_of_mem (List.mem_filter.1 hy).1) (List.mem_map_of_mem hx) u v h3 h4) N hN.1
    rw [hf] at hpa
    have hrp := canon_rgb (rep_in hl (famK K) (fun z hz => (hlb z hz).ins) (4 - (N : Int)) (N - 1)) (B := B) (fun u v huv => by
      obtain ⟨z, hz, h3⟩ := (rep_mem _ _ _ _ _ u v).1 huv
      exact ((hlb z hz).andB (kept_in hl _ _ _)).inb u v h3)
    exact both30 (hrp.reg hB) (hP.reg hB) hpa (by omega) W h1 h2
end Go.Proofs.YtfmkmhhghmdakaaGreatDoor
