/- Contracts: ContainsFunc of lines; All (claim), where each line is right. Plain: drawn catalogues and lines are right; what is left of a parcel and its lines are disjoint and together the parcel. -/
import Derived.Test.YtglanlpjoaholaaGreatYB
import Derived.Test.YtglanlpjoaholaaGreatYG
namespace Go.Proofs.YtglanlpjoaholaaGreat
open Go.RowKit Go.Shelf
set_option linter.unusedVariables false
set_option linter.unusedSimpArgs false

/-- Lines that lie in a world. -/
abbrev LS (w : World) := { x : Ln × LV // SlR w x.2.a x.1.rg.length x.2.c x.1.rg }
instance (w : World) : Inhabited (LS w) := ⟨⟨(⟨0, [], 0, 0⟩, ⟨none, 0⟩), SlR.nil w⟩⟩
def lsOf {w : World} {l : LL} (h : ∀ x ∈ l, SlR w x.2.a x.1.rg.length x.2.c x.1.rg) : List (LS w) := l.attach.map fun x => ⟨x.1, h x.1 x.2⟩
theorem lsOf_len {w : World} {l : LL} (h : ∀ x ∈ l, SlR w x.2.a x.1.rg.length x.2.c x.1.rg) : (lsOf h).length = l.length := by simp [lsOf]
theorem lsOf_get {w : World} {l : LL} (h : ∀ x ∈ l, SlR w x.2.a x.1.rg.length x.2.c x.1.rg) (j : Nat) (hj : j < l.length) : ((lsOf h)[j]'(by rw [lsOf_len]; exact hj)).1 = l[j] := by simp [lsOf]
theorem lsOf_any {w : World} {l : LL} (h : ∀ x ∈ l, SlR w x.2.a x.1.rg.length x.2.c x.1.rg) (q : Ln × LV → Bool) : (lsOf h).any (fun x => q x.1) = l.any q := by
  rw [Bool.eq_iff_iff, List.any_eq_true, List.any_eq_true]
  constructor
  · rintro ⟨x, hx, hq⟩
    obtain ⟨y, hy, rfl⟩ := List.mem_map.1 hx
    exact ⟨y.1, y.2, hq⟩
  · rintro ⟨x, hx, hq⟩
    exact ⟨⟨x, h x hx⟩, List.mem_map.2 ⟨⟨x, hx⟩, List.mem_attach _ _, rfl⟩, hq⟩

set_option maxHeartbeats 1000000 in
theorem containsL_any (p : Ln × LV → Bool) (f : Nat) (lb : Array Value) (eg : ∀ args w, (callFunc f args).run Tryz.prog w = .ok (.enter f args) w) (A : Option Addr) (n c : Nat) (l : LL) (w : World) (hA : SlL w A n c l)
    (hp : PredBelow Tryz.prog f lb (fun x : LS w => .agg (lnC x.1).toArray) (fun x => p x.1) w) :
    Calls Tryz.prog 49 #[.slice A n c, .func (.func f) #[] lb] w fun e w' => e = .returned (.bool (l.any p)) ∧ Below w.heap.size w w' := by
  have hx := hA.len
  have hn := Nat.le_trans hA.cap hA.top
  unfold maxLen at hn
  rcases Nat.eq_zero_or_pos n with h0 | h0
  · subst h0
    obtain rfl : l = [] := List.length_eq_zero_iff.1 hx
    clear hA hp eg
    go_enter Tryz.func49, Tryz.ntmps49
    go_wp2
    go_loop [8] (fun i => i = .int .i64 0) (fun _ => 0)
    case atStart => rfl
    case round =>
      subst hrel
      go_wp2
      go_ret
      exact ⟨rfl, Below.refl _ _⟩
  · obtain ⟨b1, o1, rfl, hb1, hc1⟩ := hA.lies.resolve_left (by omega)
    have hgl := lsOf_len hA.fits
    refine (AnyQ.slices_ContainsFunc Tryz.layContainsLine 4 Tryz.isAgg38 Tryz.sizeOf38 (fun x : LS w => lnC x.1) (fun _ => rfl) (fun x => p x.1) f lb eg b1 o1 n c (lsOf hA.fits) w hp (by omega) (by omega) hb1 ?_).mono ?_
    · intro j hj i v hv
      have hj' : j < l.length := by omega
      rw [getElem!_pos (lsOf hA.fits) j (by omega), lsOf_get hA.fits j hj'] at hv
      obtain ⟨h0, h1, h2, h3⟩ := lnCells_at l j hj'
      have hi : i < 4 := by
        rcases Nat.lt_or_ge i 4 with h | h
        · exact h
        · rw [List.getElem?_eq_none (by simpa [lnC] using h)] at hv; cases hv
      rcases (show i = 0 ∨ i = 1 ∨ i = 2 ∨ i = 3 by omega) with rfl | rfl | rfl | rfl
      · simp [lnC] at hv; subst hv; exact hc1 _ _ h0
      · simp [lnC] at hv; subst hv; rw [Nat.add_assoc]; exact hc1 _ _ h1
      · simp [lnC] at hv; subst hv; rw [Nat.add_assoc]; exact hc1 _ _ h2
      · simp [lnC] at hv; subst hv; rw [Nat.add_assoc]; exact hc1 _ _ h3
    · rintro e w' ⟨rfl, hb⟩
      rw [List.take_of_length_le (by omega), lsOf_any hA.fits p]
      exact ⟨rfl, hb⟩

set_option maxHeartbeats 1000000 in
theorem meetPred (T : Nat) (x : Ln) (v : LV) (w : World) (hT : w.cell? ⟨T, 1, none⟩ = some (.slice v.a x.rg.length v.c)) (hlT : T < w.heap.size) (hx : SlR w v.a x.rg.length v.c x.rg) :
    PredBelow Tryz.prog 50 #[.pointer (some ⟨T, 0, none⟩)] (fun y : LS w => .agg (lnC y.1).toArray) (fun y => meetsP x.rg y.1.1.rg) w := by
  intro W y hb
  obtain ⟨⟨⟨pc, rg, cr, sch⟩, ⟨ya, yc⟩⟩, hy⟩ := y
  dsimp only at hy ⊢
  refine Calls.mono (show Calls Tryz.prog 50 #[.agg #[.int .i64 pc, .slice ya rg.length yc, .int .i64 cr, .int .i64 sch], .pointer (some ⟨T, 0, none⟩)] W fun e w' => e = .returned (.bool (meetsP x.rg rg)) ∧ Below W.heap.size W w' from ?_) ?_
  · have HM := Lib.hid (fun W' (hW : Below W.heap.size W W') => meets_any v.a ya x.rg.length v.c rg.length yc x.rg rg W' ((hx.below hb).below hW) ((hy.below hb).below hW))
    have t1 := (hb.cell (p := ⟨T, 1, none⟩) hlT).trans hT
    have hlW : T < W.heap.size := Nat.lt_of_lt_of_le hlT hb.size
    generalize meetsP x.rg rg = res at *
    clear hx hy hT
    go_enter Tryz.func50, Tryz.ntmps50
    go_wp2_with (first | (go_at_call 51; refine (HM.out _ (by repeat' (first | with_reducible exact Below.refl _ _ | with_reducible refine below_drewN ?_ _ | with_reducible refine Below.drew ?_ | with_reducible refine Below.alloc ?_ ?_ _ | with_reducible refine Below.setCell ?_ ?_ _ | with_reducible refine Below.trans ?_ (Below.mono (by with_reducible assumption) ?_) | (simp; done) | (simp; omega) | omega))).mono ?_; rintro e w1 ⟨rfl, hb1⟩) | fail)
    go_ret
    exact ⟨rfl, (by repeat' (first | with_reducible exact Below.refl _ _ | with_reducible assumption | with_reducible refine below_drewN ?_ _ | with_reducible refine Below.drew ?_ | with_reducible refine Below.alloc ?_ ?_ _ | with_reducible refine Below.setCell ?_ ?_ _ | with_reducible refine Below.trans ?_ (Below.mono (by with_reducible assumption) ?_) | with_reducible refine below_only ?_ (by with_reducible assumption) ?_ ?_ | (simp; done) | (simp; omega) | omega))⟩
  · rintro e w' ⟨rfl, h⟩
    exact ⟨rfl, hb.trans (h.mono hb.size)⟩
theorem SlL.take {w : World} {A : Option Addr} {n c : Nat} {l : LL} (h : SlL w A n c l) {k : Nat} (hk : k ≤ n) : SlL w A k c (l.take k) := by
  refine ⟨by rw [List.length_take, h.len]; omega, Nat.le_trans hk h.cap, h.top, ?_, fun x hx => h.fits x (List.mem_of_mem_take hx)⟩
  rcases h.lies with h0 | ⟨b, off, e, hb, hc⟩
  · exact .inl (by omega)
  · refine .inr ⟨b, off, e, hb, fun j u hu => hc j u ?_⟩
    have e2 : lnCells l = lnCells (l.take k) ++ lnCells (l.drop k) := by rw [← lnCells_app, List.take_append_drop]
    have hj : j < (lnCells (l.take k)).length := by
      rcases Nat.lt_or_ge j (lnCells (l.take k)).length with h1 | h1
      · exact h1
      · rw [List.getElem?_eq_none h1] at hu; cases hu
    rw [e2, List.getElem?_append_left hj]
    exact hu

set_option maxHeartbeats 8000000 in
set_option maxRecDepth 100000 in
theorem allC_any (LA : Option Addr) (n lc : Nat) (l : LL) (NA : Option Addr) (m kc : Nat) (N : List Int) (RA : Option Addr) (rc : Nat) (R : RL) (CA : Option Addr) (q cc : Nat) (C : List Cp) (mask : Int) (w : World) (hL : SlL w LA n lc l) (hP : PcV w NA m kc N RA rc R CA q cc C) (hf : ∀ x ∈ l, LnFine N R q mask x.1) (hn : n ≤ 20) (t0 : Nat) (ht0 : t0 ≤ n)
    (hcl : ∀ i (h : i < l.length), i < t0 → (l.take i).any (fun y => meetsP l[i].1.rg y.1.rg) = false) (hend : t0 = n ∨ ∃ h : t0 < l.length, (l.take t0).any (fun y => meetsP l[t0].1.rg y.1.rg) = true) (r1 r2 : Int) (hr : r1 = (if t0 = n then -1 else (t0 : Int)) ∧ r2 = (if t0 = n then 0 else 11)) :
    Calls Tryz.prog 19 #[.slice LA n lc, .slice NA m kc, .slice RA m rc, .slice CA q cc, .int .i64 mask] w fun e w' => e = .returned (.tuple #[.int .i64 r1, .int .i64 r2]) ∧ Below w.heap.size w w' := by
  have hlen := hL.len
  have HL := Lib.hid hL
  have HP := Lib.hid hP
  have Hf := Lib.hid hf
  have Hcl := Lib.hid hcl
  have Hend := Lib.hid hend
  have Hr := Lib.hid hr
  have eg : ∀ args w, (callFunc 50 args).run Tryz.prog w = .ok (.enter 50 args) w := enters_of Tryz.func50 (by kernel_rfl) rfl
  have Eg := Lib.hid eg
  clear hL hP hf hcl hend hr eg
  have hbig : ¬ (20 : Int) < (n : Int) := by omega
  go_enter Tryz.func19, Tryz.ntmps19
  go_upto_region 4 with fail
  obtain ⟨wa, hwa⟩ : ∃ wa : World, wa = w.alloc (.cells #[.slice NA m kc, .slice RA m rc, .slice CA q cc, .int .i64 mask] 77) := ⟨_, rfl⟩
  rw [← hwa]
  have HB : Hid (wa.heap[w.heap.size]? = some (.cells #[.slice NA m kc, .slice RA m rc, .slice CA q cc, .int .i64 mask] 77 (0, 0))) := Lib.hid (by rw [hwa]; exact heap_alloc_new w _)
  have Hba : Hid (Below w.heap.size w wa) := Lib.hid (by rw [hwa]; exact (by repeat' (first | with_reducible exact Below.refl _ _ | with_reducible refine below_drewN ?_ _ | with_reducible refine Below.drew ?_ | with_reducible refine Below.alloc ?_ ?_ _ | with_reducible refine Below.setCell ?_ ?_ _ | with_reducible refine Below.trans ?_ (Below.mono (by with_reducible assumption) ?_) | (simp; done) | (simp; omega) | omega)))
  have hla : w.heap.size < wa.heap.size := by rw [hwa]; simp
  obtain ⟨P, hPe⟩ : ∃ P, w.heap.size = P := ⟨_, rfl⟩
  have HLa := Lib.hid (HL.out.below Hba.out)
  have HPa := Lib.hid (HP.out.below Hba.out)
  have Hba0 := Lib.hid Hba.out
  have hla0 : w.heap.size ≤ wa.heap.size := Nat.le_of_lt hla
  rw [hPe] at HB hla ⊢
  clear hwa hPe HL HP Hba
  go_wp2_with fail
  go_loopw [13, 15, 26] (fun _ _ iv wr => ∃ k : Nat, k ≤ n ∧ k ≤ t0 ∧ iv = .int .i64 (k : Int) ∧ Below wa.heap.size wa wr) (fun _ _ iv _ => n - (intOf iv).toNat)
  case atStart => exact ⟨0, Nat.zero_le _, Nat.zero_le _, rfl, Below.refl _ _⟩
  case round =>
    obtain ⟨k, hk, hkt, rfl, hbw⟩ := hrel
    have Hbw := Lib.hid hbw
    have hsw := hbw.size
    have HBr := Lib.hid ((hbw.block _ hla).trans HB.out)
    clear hbw
    by_cases hkn : k < n
    · have hkn' : (k : Int) < (n : Int) := by omega
      have hkl : k < l.length := by omega
      have Hfk := Lib.hid (Hf.out l[k] (List.getElem_mem hkl))
      have Hck := Lib.hid (fun h : k < t0 => Hcl.out k hkl h)
      have Hek : Hid (k = t0 → (l.take k).any (fun y => meetsP l[k].1.rg y.1.rg) = true) := Lib.hid (fun h => by
        subst h
        rcases Hend.out with h1 | ⟨h1, h2⟩
        · omega
        · exact h2)
      have HTk := Lib.hid ((HLa.out.below Hbw.out).take hk)
      obtain ⟨b2, o2, hA2, hb2, g0, g1, g2, g3, hS⟩ := (HLa.out.below Hbw.out).at k hkl
      have HS := Lib.hid hS
      clear hS
      generalize l[k] = y at *
      obtain ⟨⟨ypc, yrg, ycr, ysch⟩, ⟨ya, yc⟩⟩ := y
      dsimp only at *
      generalize l.take k = lk at *
      subst hA2
      have hrow := heap_alloc_new wr (.cells #[.int .i64 ypc, .slice ya yrg.length yc, .int .i64 ycr, .int .i64 ysch] 38)
      have Hb6 : Hid (Below wr.heap.size wr (wr.alloc (.cells #[.int .i64 ypc, .slice ya yrg.length yc, .int .i64 ycr, .int .i64 ysch] 38))) := Lib.hid (by repeat' (first | with_reducible exact Below.refl _ _ | with_reducible refine below_drewN ?_ _ | with_reducible refine Below.drew ?_ | with_reducible refine Below.alloc ?_ ?_ _ | with_reducible refine Below.setCell ?_ ?_ _ | with_reducible refine Below.trans ?_ (Below.mono (by with_reducible assumption) ?_) | (simp; done) | (simp; omega) | omega))
      have hlb : wr.heap.size < (wr.alloc (.cells #[.int .i64 ypc, .slice ya yrg.length yc, .int .i64 ycr, .int .i64 ysch] 38)).heap.size := by simp
      go_upto_region 7 with fail
      obtain ⟨T, hT⟩ : ∃ T, wr.heap.size = T := ⟨_, rfl⟩
      rw [hT] at hrow hlb ⊢
      generalize wr.alloc (.cells #[.int .i64 ypc, .slice ya yrg.length yc, .int .i64 ycr, .int .i64 ysch] 38) = wb at *
      have t0' := cell_of_row wb T 0 _ _ _ hrow
      have t1' := cell_of_row wb T 1 _ _ _ hrow
      have t2' := cell_of_row wb T 2 _ _ _ hrow
      have t3' := cell_of_row wb T 3 _ _ _ hrow
      have hPr : P < wr.heap.size := by omega
      have hrP := (Hb6.out.block _ hPr).trans HBr.out
      have p0 := cell_of_row wb P 0 _ _ _ hrP
      have p1 := cell_of_row wb P 1 _ _ _ hrP
      have p2 := cell_of_row wb P 2 _ _ _ hrP
      have p3 := cell_of_row wb P 3 _ _ _ hrP
      have Hbab := Lib.hid (Hbw.out.trans (Hb6.out.mono hsw))
      have hsb := Hb6.out.size
      have Hrow := Lib.hid hrow
      have HPl := Lib.hid (pline_any NA m kc N RA rc R CA q cc C mask ⟨ypc, yrg, ycr, ysch⟩ ⟨ya, yc⟩ wb (HPa.out.below Hbab.out) (HS.out.below Hb6.out) 0 (.inl ⟨rfl, Hfk.out⟩))
      clear g0 g1 g2 g3 hrow hrP hT
      go_wp2_with fail
      refine HPl.out.mono ?_
      rintro e w5 ⟨rfl, hb5⟩
      have Hb5 := Lib.hid hb5
      have hs5 := hb5.size
      have t15 := cell_of_row w5 T 1 _ _ _ ((hb5.block _ hlb).trans Hrow.out)
      have hlT5 : T < w5.heap.size := by omega
      have Hb65 := Lib.hid (Hb6.out.trans (hb5.mono hsb))
      have HCo := Lib.hid (containsL_any (fun y => meetsP yrg y.1.rg) 50 #[.pointer (some ⟨T, 0, none⟩)] Eg.out (some ⟨b2, o2, none⟩) k lc lk w5 (HTk.out.below Hb65.out) (meetPred T ⟨ypc, yrg, ycr, ysch⟩ ⟨ya, yc⟩ w5 t15 hlT5 (HS.out.below Hb65.out)))
      clear t0' t1' t2' t3' p0 p1 p2 p3 hb5 HPl
      have hkc : k ≤ lc := HTk.out.cap
      have hkc' : (k : Int) ≤ (lc : Int) := by omega
      have hkc0 : ¬ (k : Int) < 0 := by omega
      by_cases hkt0 : k < t0
      · rw [Hck.out hkt0] at HCo
        go_wp2_with (first | (go_at_call 49; refine HCo.out.mono ?_; rintro e w6 ⟨rfl, hb6⟩) | fail)
        go_roundw
        case rel => exact ⟨k + 1, by omega, by omega, by go_num, Hbw.out.trans ((Hb65.out.trans (hb6.mono (by omega))).mono hsw)⟩
        case measure => simp [intOf]; omega
      · have hkt1 : k = t0 := by omega
        rw [Hek.out hkt1] at HCo
        have hr1 : r1 = (k : Int) := by rw [Hr.out.1, if_neg (by omega), hkt1]
        have hr2 : r2 = 11 := by rw [Hr.out.2, if_neg (by omega)]
        have Hr1 := Lib.hid hr1
        have Hr2 := Lib.hid hr2
        clear hkt1 hr1 hr2
        go_wp2_with (first | (go_at_call 49; refine HCo.out.mono ?_; rintro e w6 ⟨rfl, hb6⟩) | fail)
        refine bodyPost_ret (v := .tuple #[.int .i64 (k : Int), .int .i64 11]) (by simp [results, Tryz.results19, go_sem, *]) rfl ?_
        exact ⟨by rw [Hr1.out, Hr2.out], Hba0.out.trans ((Hbw.out.trans ((Hb65.out.trans (hb6.mono (by omega))).mono hsw)).mono hla0)⟩
    · have hkn' : ¬ (k : Int) < (n : Int) := by omega
      have Hr1 : Hid (r1 = -1) := Lib.hid (by rw [Hr.out.1, if_pos (by omega)])
      have Hr2 : Hid (r2 = 0) := Lib.hid (by rw [Hr.out.2, if_pos (by omega)])
      go_wp2
      refine bodyPost_ret (v := .tuple #[.int .i64 (-1), .int .i64 0]) (by simp [results, Tryz.results19, go_sem, *]) rfl ?_
      exact ⟨by rw [Hr1.out, Hr2.out], Hba0.out.trans (Hbw.out.mono hla0)⟩

def cropB (i : Nat) : ByteArray := match i with
  | 0 => ⟨#[98, 97, 114, 108, 101, 121]⟩
  | 1 => ⟨#[99, 108, 111, 118, 101, 114]⟩
  | 2 => ⟨#[103, 114, 97, 115, 115]⟩
  | 3 => ⟨#[109, 97, 105, 122, 101]⟩
  | 4 => ⟨#[111, 97, 116, 115]⟩
  | 5 => ⟨#[114, 121, 101]⟩
  | 6 => ⟨#[118, 101, 116, 99, 104]⟩
  | 7 => ⟨#[119, 104, 101, 97, 116]⟩
  | _ => ⟨#[]⟩
theorem cropN_B (i : Nat) (h : i < 8) : cropN i = .string (cropB i) := by
  rcases (show i = 0 ∨ i = 1 ∨ i = 2 ∨ i = 3 ∨ i = 4 ∨ i = 5 ∨ i = 6 ∨ i = 7 by omega) with rfl | rfl | rfl | rfl | rfl | rfl | rfl | rfl <;> rfl
theorem cropB_letters (i : Nat) (h : i < 8) : lettersB (cropB i) = true := by
  rcases (show i = 0 ∨ i = 1 ∨ i = 2 ∨ i = 3 ∨ i = 4 ∨ i = 5 ∨ i = 6 ∨ i = 7 by omega) with rfl | rfl | rfl | rfl | rfl | rfl | rfl | rfl <;> decide
theorem cropB_less (i : Nat) (h : i + 1 < 8) : leqS (cropB (i + 1)) (cropB i) = false := by
  rcases (show i = 0 ∨ i = 1 ∨ i = 2 ∨ i = 3 ∨ i = 4 ∨ i = 5 ∨ i = 6 by omega) with rfl | rfl | rfl | rfl | rfl | rfl | rfl <;> decide +kernel
def cpK : Nat → List (Int × Int) → List Cp
  | _, [] => []
  | i, x :: t => ⟨cropB i, x.1, x.2⟩ :: cpK (i + 1) t
theorem cpK_len : ∀ (l : List (Int × Int)) (i : Nat), (cpK i l).length = l.length
  | [], _ => rfl
  | x :: t, i => by simp [cpK, cpK_len t]
theorem cpK_get : ∀ (l : List (Int × Int)) (i j : Nat) (h : j < l.length), (cpK i l)[j]'(by rw [cpK_len]; exact h) = ⟨cropB (i + j), l[j].1, l[j].2⟩
  | x :: t, i, 0, _ => by simp [cpK]
  | x :: t, i, j + 1, h => by
    have := cpK_get t (i + 1) j (by simpa using h)
    simp only [cpK, List.getElem_cons_succ]
    rw [this, show i + 1 + j = i + (j + 1) by omega]
theorem cpK_cells : ∀ (l : List (Int × Int)) (i : Nat), i + l.length ≤ 8 → cpFrom i l = kCells (cpK i l)
  | [], _, _ => rfl
  | x :: t, i, h => by
    have ih := cpK_cells t (i + 1) (by simp at h; omega)
    have e : kCells (cpK i (x :: t)) = [.string (cropB i), .int .i64 x.1, .int .i64 x.2] ++ kCells (cpK (i + 1) t) := by simp [kCells, cpK]
    rw [e, ← ih]
    simp only [cpFrom, cpC]
    rw [cropN_B i (by simp at h; omega)]
theorem cpK_ok (l : List (Int × Int)) (h8 : l.length ≤ 8) (hb : ∀ x ∈ l, (0 ≤ x.1 ∧ x.1 ≤ 2) ∧ 0 ≤ x.2 ∧ x.2 ≤ 31) : cropsB (cpK 0 l) := by
  refine ⟨by rw [cpK_len]; omega, fun x hx => ?_, fun i h => ?_⟩
  · obtain ⟨j, hj, rfl⟩ := List.getElem_of_mem hx
    have hj' : j < l.length := by rw [cpK_len] at hj; exact hj
    rw [cpK_get l 0 j hj', Nat.zero_add]
    obtain ⟨h1, h2⟩ := hb l[j] (List.getElem_mem hj')
    exact ⟨cropB_letters j (by omega), ⟨h1.1, by dsimp only; omega⟩, h2⟩
  · have hi : i + 1 < l.length := by rw [cpK_len] at h; exact h
    rw [cpK_get l 0 i (by omega), cpK_get l 0 (i + 1) hi, Nat.zero_add, Nat.zero_add]
    exact cropB_less i (by omega)
theorem nums_sorted (n : Nat) : (nums n).Pairwise (· < ·) := by
  rw [List.pairwise_iff_getElem]
  intro i j hi hj hij
  rw [nums_get, nums_get]
  omega
theorem sch_mask (s : Int) (h : 1 ≤ s ∧ s ≤ 15) : bits BinOp.andNot IntKind.i64 s 31 = 0 := by
  rcases (show s = 1 ∨ s = 2 ∨ s = 3 ∨ s = 4 ∨ s = 5 ∨ s = 6 ∨ s = 7 ∨ s = 8 ∨ s = 9 ∨ s = 10 ∨ s = 11 ∨ s = 12 ∨ s = 13 ∨ s = 14 ∨ s = 15 by omega) with rfl | rfl | rfl | rfl | rfl | rfl | rfl | rfl | rfl | rfl | rfl | rfl | rfl | rfl | rfl <;> decide
/-- A drawn line is right. -/
theorem LnOk.fine {R : RL} {nc : Nat} {x : Ln} (hR : PcOk (rgs R)) (h : LnOk (rgs R) nc x) : LnFine (nums R.length) R nc 31 x := by
  obtain ⟨p, hp, hpc, hin⟩ := h.pc
  have hp' : p < R.length := by rw [rgs_len] at hp; exact hp
  have hm := hR.m
  rw [rgs_len] at hm
  have hv := h.reg.valid (by omega) (by omega)
  refine ⟨?_, h.ne, hv, fun i hi hat => ?_, h.cr, by have := h.sch; omega, sch_mask _ h.sch⟩
  · rw [hpc]
    exact List.mem_map.2 ⟨p, List.mem_range.2 hp', rfl⟩
  · have hi' : i < (nums R.length).length := by rw [nums_len]; exact hi
    rw [List.getElem?_eq_getElem hi', nums_get, hpc] at hat
    injection hat with hat
    obtain rfl : i = p := by omega
    have e : (rgs R)[i]'hp = R[i].1 := by simp [rgs]
    have hr := (hR.at' i hp).reg (by omega)
    rw [e] at hr hin
    exact within_of h.reg.ins hr.ins hv (hr.valid (by omega) (by omega)) hin
/-- Lines do not meet. -/
theorem LsOk.apart {R : List (List R4)} {nc k : Nat} {L : LL} (h : LsOk R nc k (lns L)) (i : Nat) (hi : i < L.length) : (L.take i).any (fun y => meetsP L[i].1.rg y.1.rg) = false := by
  rw [List.any_eq_false]
  intro y hy
  obtain ⟨j, hj, rfl⟩ := List.mem_take_iff_getElem.1 hy
  have hji : j < i := by omega
  have hjl : j < L.length := by omega
  have hd := List.pairwise_iff_getElem.1 h.dis j i (by rw [lns_len]; exact hjl) (by rw [lns_len]; exact hi) hji
  have e1 : (lns L)[j]'(by rw [lns_len]; exact hjl) = L[j].1 := by simp [lns]
  have e2 : (lns L)[i]'(by rw [lns_len]; exact hi) = L[i].1 := by simp [lns]
  rw [e1, e2] at hd
  have h1 := h.ok _ (List.mem_map_of_mem (List.getElem_mem hi))
  have h2 := h.ok _ (List.mem_map_of_mem (List.getElem_mem hjl))
  rw [meets_not h1.reg.ins h2.reg.ins (fun u v huv => by
    cases hc : inL L[j].1.rg u v with
    | false => rfl
    | true => rw [hd u v hc] at huv; cases huv)]
  simp
/-- What is left of a parcel and its lines. -/
theorem rests_law {R : List (List R4)} {nc k : Nat} {L : List Ln} (hR : PcOk R) (h : LsOk R nc k L) (hk : k ≤ 4) {i : Nat} (hi : i < R.length) :
    areaP (chooseP notB R[i] (rectsP (onP ((i : Int) + 1)) L)) + sumA (onP ((i : Int) + 1)) L = areaP R[i] ∧ withinP (chooseP notB R[i] (rectsP (onP ((i : Int) + 1)) L)) R[i] = true ∧ ∀ x ∈ L, onP ((i : Int) + 1) x = true → meetsP (chooseP notB R[i] (rectsP (onP ((i : Int) + 1)) L)) x.rg = false := by
  obtain ⟨h2, h3⟩ := left_reg hR h hk (onP ((i : Int) + 1)) hi
  have hr := (hR.at' i hi).reg (by have := hR.m; omega)
  have hsub : ∀ x ∈ L, onP ((i : Int) + 1) x = true → ∀ u v, inL x.rg u v = true → inL R[i] u v = true := fun x hx hp u v huv => by
    obtain ⟨p, hpl, hpc, hin⟩ := (h.ok x hx).pc
    have he : x.pc = (i : Int) + 1 := by simpa [onP] using hp
    obtain rfl : p = i := by omega
    exact hin u v huv
  refine ⟨?_, ?_, fun x hx hp => ?_⟩
  · rw [h2.cnt (by omega), sum_cnt _ L h.ok h.dis, hr.cnt (by omega), ← cnt_or (fun x y hxy => by
      rw [h3, Bool.and_eq_true, Bool.not_eq_true'] at hxy
      exact hxy.2)]
    refine cnt_congr fun x y => ?_
    rw [h3]
    cases ha : L.any fun z => onP ((i : Int) + 1) z && inL z.rg x y with
    | false => simp
    | true =>
      obtain ⟨z, hz, hzz⟩ := List.any_eq_true.1 ha
      rw [Bool.and_eq_true] at hzz
      rw [hsub z hz hzz.1 x y hzz.2]
      rfl
  · exact within_of h2.ins hr.ins (h2.valid (by omega) (by omega)) (hr.valid (by omega) (by omega)) fun u v huv => by
      rw [h3, Bool.and_eq_true] at huv
      exact huv.1
  · refine meets_not h2.ins (h.ok x hx).reg.ins fun u v huv => ?_
    rw [h3, Bool.and_eq_true, Bool.not_eq_true'] at huv
    cases hc : inL x.rg u v with
    | false => rfl
    | true =>
      have := List.any_eq_false.1 huv.2 x hx
      rw [hp, hc] at this
      simp at this
end Go.Proofs.YtglanlpjoaholaaGreat
