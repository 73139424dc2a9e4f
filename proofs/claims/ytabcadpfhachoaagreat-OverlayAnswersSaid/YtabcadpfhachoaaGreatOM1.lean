/- Contracts: check, Areas, Common (overlay). -/
/- Plain: the faces with a region's bit are the region. -/
/- Contracts: regions, Cover, Disjoint (overlay). -/
/- Contract: Disjoint (overlay). -/
/- Plain: what covers faces; single bits and disjoint regions. -/
/- Plain: how many rectangles a set of squares has that changes at few places; Disjoint's result is one alone. -/
/- Contracts of the reference (layer 4): combine, Union, Both, Without, Within, Meets (printed by genV3.py). -/
/- Plain: chains of Combine (the reference of layer 7). -/
/- Contracts of the reference (layer 7): check, valid, Areas. -/
/- Contracts: overlay's Common for any cuts; the reference's Common. -/
/- Contract of the reference (layer 7): Disjoint. -/
/- Contract of the reference (layer 7): Cover. -/
import Derived.Test.YtabcadpfhachoaaGreatOC
import Derived.Test.YtabcadpfhachoaaGreatHT
import Derived.Test.YtabcadpfhachoaaGreatU3
import Derived.Test.YtabcadpfhachoaaGreatU7
import Derived.Test.YtabcadpfhachoaaGreatQ
import Derived.Test.YtabcadpfhachoaaGreatV2
namespace Go.Proofs.YtabcadpfhachoaaGreat
open Go.RowKit Go.Shelf
set_option linter.unusedVariables false
set_option linter.unusedSimpArgs false

abbrev FS (w : World) := { x : Fc × LV // SlR w x.2.a x.1.rg.length x.2.c x.1.rg }
instance (w : World) : Inhabited (FS w) := ⟨⟨(⟨0, []⟩, ⟨none, 0⟩), SlR.nil w⟩⟩
def fsOf {w : World} {l : FL} (h : ∀ x ∈ l, SlR w x.2.a x.1.rg.length x.2.c x.1.rg) : List (FS w) := l.attach.map fun x => ⟨x.1, h x.1 x.2⟩
theorem fsOf_len {w : World} {l : FL} (h : ∀ x ∈ l, SlR w x.2.a x.1.rg.length x.2.c x.1.rg) : (fsOf h).length = l.length := by simp [fsOf]
theorem fsOf_get {w : World} {l : FL} (h : ∀ x ∈ l, SlR w x.2.a x.1.rg.length x.2.c x.1.rg) (j : Nat) (hj : j < l.length) : ((fsOf h)[j]'(by rw [fsOf_len]; exact hj)).1 = l[j] := by simp [fsOf]
theorem fsOf_any {w : World} {l : FL} (h : ∀ x ∈ l, SlR w x.2.a x.1.rg.length x.2.c x.1.rg) (q : Fc × LV → Bool) : (fsOf h).any (fun x => q x.1) = l.any q := by
  rw [Bool.eq_iff_iff, List.any_eq_true, List.any_eq_true]
  constructor
  · rintro ⟨x, hx, hq⟩
    obtain ⟨y, hy, rfl⟩ := List.mem_map.1 hx
    exact ⟨y.1, y.2, hq⟩
  · rintro ⟨x, hx, hq⟩
    exact ⟨⟨x, h x hx⟩, List.mem_map.2 ⟨⟨x, hx⟩, List.mem_attach _ _, rfl⟩, hq⟩

set_option maxHeartbeats 1000000 in
theorem containsFc_any (p : Fc × LV → Bool) (f : Nat) (lb : Array Value) (eg : ∀ args w, (callFunc f args).run Tryz.prog w = .ok (.enter f args) w) (A : Option Addr) (n c : Nat) (l : FL) (w : World) (hA : SlF w A n c l)
    (hp : PredBelow Tryz.prog f lb (fun x : FS w => .agg (fcC x.1).toArray) (fun x => p x.1) w) :
    Calls Tryz.prog 76 #[.slice A n c, .func (.func f) #[] lb] w fun e w' => e = .returned (.bool (l.any p)) ∧ Below w.heap.size w w' := by
  have hx := hA.len
  have hn := Nat.le_trans hA.cap hA.top
  unfold maxLen at hn
  rcases Nat.eq_zero_or_pos n with h0 | h0
  · subst h0
    obtain rfl : l = [] := List.length_eq_zero_iff.1 hx
    clear hA hp eg
    go_enter Tryz.func76, Tryz.ntmps76
    go_wp2
    go_loop [8] (fun i => i = .int .i64 0) (fun _ => 0)
    case atStart => rfl
    case round =>
      subst hrel
      go_wp2
      go_ret
      exact ⟨rfl, Below.refl _ _⟩
  · obtain ⟨b1, o1, rfl, hb1, hc1⟩ := hA.lies.resolve_left (by omega)
    have hgl := fsOf_len hA.fits
    refine (AnyQ.slices_ContainsFunc Tryz.layContainsFace 2 Tryz.isAgg36 Tryz.sizeOf36 (fun x : FS w => fcC x.1) (fun _ => rfl) (fun x => p x.1) f lb eg b1 o1 n c (fsOf hA.fits) w hp (by omega) (by omega) hb1 ?_).mono ?_
    · intro j hj i v hv
      have hj' : j < l.length := by omega
      rw [getElem!_pos (fsOf hA.fits) j (by omega), fsOf_get hA.fits j hj'] at hv
      obtain ⟨h1, h2⟩ := fcCells_at l j hj'
      have hi : i < 2 := by
        rcases Nat.lt_or_ge i 2 with h | h
        · exact h
        · rw [List.getElem?_eq_none (by simp [fcC]; omega)] at hv; cases hv
      obtain rfl | rfl : i = 0 ∨ i = 1 := by omega
      · simp [fcC] at hv
        subst hv
        exact hc1 _ _ h1
      · simp [fcC] at hv
        subst hv
        exact hc1 _ _ h2
    · rintro e w' ⟨rfl, hb⟩
      rw [List.take_of_length_le (by omega), fsOf_any hA.fits p]
      exact ⟨rfl, hb⟩

set_option maxHeartbeats 400000 in
theorem checkFn (w : World) : PredBelow Tryz.prog 77 #[] (fun x : FS w => .agg (fcC x.1).toArray) (fun x => !validP x.1.1.rg) w := by
  intro W x hb
  obtain ⟨⟨⟨s, l⟩, v⟩, hx⟩ := x
  refine Calls.mono (show Calls Tryz.prog 77 #[.agg #[.int .i64 s, .slice v.a l.length v.c]] W fun e w' => e = .returned (.bool (!validP l)) ∧ Below W.heap.size W w' from ?_) ?_
  · have HV := Lib.hid (fun W' (hW : Below W.heap.size W W') => valid_any v.a l.length v.c l W' ((hx.below hb).below hW))
    generalize validP l = x at *
    clear hx
    go_enter Tryz.func77, Tryz.ntmps77
    go_wp2_with (first | (go_at_call 27; refine (HV.out _ (by repeat' (first | with_reducible exact Below.refl _ _ | with_reducible refine below_drewN ?_ _ | with_reducible refine Below.drew ?_ | with_reducible refine Below.alloc ?_ ?_ _ | with_reducible refine Below.setCell ?_ ?_ _ | with_reducible refine Below.trans ?_ (Below.mono (by with_reducible assumption) ?_) | (simp; done) | (simp; omega) | omega))).mono ?_; rintro e w1 ⟨rfl, hb1⟩) | fail)
    go_ret
    exact ⟨rfl, (by repeat' (first | with_reducible exact Below.refl _ _ | with_reducible assumption | with_reducible refine below_drewN ?_ _ | with_reducible refine Below.drew ?_ | with_reducible refine Below.alloc ?_ ?_ _ | with_reducible refine Below.setCell ?_ ?_ _ | with_reducible refine Below.trans ?_ (Below.mono (by with_reducible assumption) ?_) | with_reducible refine below_only ?_ (by with_reducible assumption) ?_ ?_ | (simp; done) | (simp; omega) | omega))⟩
  · rintro e w' ⟨rfl, h⟩
    exact ⟨rfl, hb.trans (h.mono hb.size)⟩

def lastOf (F : List Fc) : Nat → Int
  | 0 => 0
  | k + 1 => (F.getD k ⟨0, []⟩).set
def okAt (F : List Fc) (k : Nat) : Bool := decide (lastOf F k < (F.getD k ⟨0, []⟩).set) && decide ((F.getD k ⟨0, []⟩).set < 4096)
def ascF (F : List Fc) : Bool := (List.range F.length).all (okAt F)
/-- overlay's check. -/
def checkFP (F : List Fc) : Int := if 200 < F.length then 1 else if F.all (fun f => validP f.rg) then (if ascF F then 0 else 3) else 7

set_option maxHeartbeats 2000000 in
set_option maxRecDepth 100000 in
theorem check_any (A : Option Addr) (n c : Nat) (l : FL) (w : World) (hA : SlF w A n c l) : Calls Tryz.prog 44 #[.slice A n c] w fun e w' => e = .returned (.int .i64 (checkFP (fcs l))) ∧ Below w.heap.size w w' := by
  have hlen : (fcs l).length = n := by rw [fcs, List.length_map]; exact hA.len
  have HA := Lib.hid hA
  have eg : ∀ args w, (callFunc 77 args).run Tryz.prog w = .ok (.enter 77 args) w := enters_of Tryz.func77 (by kernel_rfl) rfl
  have Hcf := Lib.hid (containsFc_any (fun x => !validP x.1.rg) 77 #[] eg A n c l w hA (checkFn w))
  have hall : (l.any fun x => !validP x.1.rg) = !(fcs l).all (fun f => validP f.rg) := by
    rw [any_not_all]
    simp [fcs, List.all_map]
    rfl
  rw [hall] at Hcf
  have Hres : Hid (checkFP (fcs l) = if 200 < n then 1 else if (fcs l).all (fun f => validP f.rg) then (if ascF (fcs l) then 0 else 3) else 7) := Lib.hid (by unfold checkFP; rw [hlen])
  have Hlen := Lib.hid hlen
  generalize checkFP (fcs l) = res at *
  generalize (fcs l).all (fun f => validP f.rg) = va at *
  clear hA hlen hall eg
  go_enter Tryz.func44, Tryz.ntmps44
  by_cases h200 : 200 < n
  · have h200' : (200 : Int) < (n : Int) := by omega
    go_wp2
    go_ret
    exact ⟨by rw [Hres.out, if_pos h200]; rfl, Below.refl _ _⟩
  · have h200' : ¬ (200 : Int) < (n : Int) := by omega
    cases va
    · go_wp2_with (first | (go_at_call 76; refine Hcf.out.mono ?_; rintro e w1 ⟨rfl, hb1⟩) | fail)
      go_ret
      exact ⟨by rw [Hres.out, if_neg h200]; rfl, hb1⟩
    · go_upto_region 7 with (first | (go_at_call 76; refine Hcf.out.mono ?_; rintro e w1 ⟨rfl, hb1⟩) | fail)
      have Hb1 := Lib.hid hb1
      have hs1 := hb1.size
      clear hb1
      go_loopw [3, 13] (fun lv iv wr => ∃ k : Nat, iv = .int .i64 (k : Int) ∧ k ≤ n ∧ lv = .int .i64 (lastOf (fcs l) k) ∧ Hid ((List.range k).all (okAt (fcs l)) = true) ∧ Below w.heap.size w wr) (fun _ iv _ => n - (intOf iv).toNat)
      case atStart => exact ⟨0, rfl, by omega, rfl, Lib.hid rfl, Hb1.out⟩
      case round =>
        obtain ⟨k, rfl, hkn, rfl, Hall, hbr⟩ := hrel
        have Hbr := Lib.hid hbr
        have hsr := hbr.size
        clear hbr
        by_cases hk : k < n
        · have hk' : (k : Int) < (n : Int) := by omega
          have hkl : k < l.length := by have := HA.out.len; omega
          obtain ⟨b, off, rfl, hb, c0, c1, _⟩ := (HA.out.below Hbr.out).at k hkl
          have hg : (fcs l).getD k ⟨0, []⟩ = l[k].1 := by simp [fcs, List.getD, List.getElem?_eq_getElem hkl]
          have Hok : Hid (okAt (fcs l) k = (decide (lastOf (fcs l) k < l[k].1.set) && decide (l[k].1.set < 4096))) := Lib.hid (by unfold okAt; rw [hg])
          have Hlast : Hid (lastOf (fcs l) (k + 1) = l[k].1.set) := Lib.hid (by show ((fcs l).getD k ⟨0, []⟩).set = _; rw [hg])
          obtain ⟨z, hz⟩ : ∃ z, l[k].1.set = z := ⟨_, rfl⟩
          obtain ⟨D, hD⟩ : ∃ D, l[k].2.a = D := ⟨_, rfl⟩
          obtain ⟨q, hq⟩ : ∃ q, l[k].1.rg.length = q := ⟨_, rfl⟩
          obtain ⟨d, hd⟩ : ∃ d, l[k].2.c = d := ⟨_, rfl⟩
          rw [hz] at c0 Hok Hlast
          rw [hD, hq, hd] at c1
          obtain ⟨lt, hlt⟩ : ∃ lt, lastOf (fcs l) k = lt := ⟨_, rfl⟩
          rw [hlt] at Hok ⊢
          clear hg hz hD hq hd hlt
          have Hbad : Hid (okAt (fcs l) k = false → res = 3) := Lib.hid (fun h => by
            rw [Hres.out, if_neg h200, if_pos trivial, if_neg]
            intro hc
            have := List.all_eq_true.1 hc k (List.mem_range.2 (by rw [Hlen.out]; exact hk))
            rw [h] at this
            cases this)
          by_cases h1 : lt < z
          · have h1' : ¬ z ≤ lt := by omega
            by_cases h2 : z < 4096
            · have h2' : ¬ 4096 ≤ z := by omega
              go_wp2
              go_roundw
              case rel => exact ⟨k + 1, by go_num, by omega, by rw [Hlast.out], Lib.hid (by rw [List.range_succ, List.all_append, Hall.out, List.all_cons, Hok.out]; simp [h1, h2]), Hbr.out.alloc hsr _⟩
              case measure => simp [intOf]; omega
            · have h2' : 4096 ≤ z := by omega
              have Hr := Lib.hid (Hbad.out (by rw [Hok.out]; simp [h2]))
              go_wp2
              go_ret
              exact ⟨by rw [Hr.out]; rfl, Hbr.out.alloc hsr _⟩
          · have h1' : z ≤ lt := by omega
            have Hr := Lib.hid (Hbad.out (by rw [Hok.out]; simp [h1]))
            go_wp2
            go_ret
            exact ⟨by rw [Hr.out]; rfl, Hbr.out.alloc hsr _⟩
        · obtain rfl : k = n := by omega
          go_wp2
          go_ret
          refine ⟨?_, Hbr.out⟩
          rw [Hres.out, if_neg h200, if_pos trivial, if_pos (by unfold ascF; rw [Hlen.out]; exact Hall.out)]
          rfl

def prCells (l : List (Int × Int)) : List Value := l.flatMap fun x => [.int .i64 x.1, .int .i64 x.2]
theorem prCells_len (l : List (Int × Int)) : (prCells l).length = l.length * 2 := by
  induction l with
  | nil => rfl
  | cons a t ih => show (prCells t).length + 2 = _; rw [ih, List.length_cons]; omega
theorem prCells_snoc (l : List (Int × Int)) (x : Int × Int) : prCells (l ++ [x]) = prCells l ++ [.int .i64 x.1, .int .i64 x.2] := by simp [prCells]
theorem prCells_at (l : List (Int × Int)) (i : Nat) (h : i < l.length) : (prCells l)[i * 2]? = some (.int .i64 l[i].1) ∧ (prCells l)[i * 2 + 1]? = some (.int .i64 l[i].2) := by
  induction l generalizing i with
  | nil => simp at h
  | cons a t ih =>
    cases i with
    | zero => exact ⟨rfl, rfl⟩
    | succ i =>
      have := ih i (by simpa using h)
      have e : prCells (a :: t) = [.int .i64 a.1, .int .i64 a.2] ++ prCells t := rfl
      rw [e]
      constructor
      · rw [List.getElem?_append_right (by simp; omega)]
        have : (i + 1) * 2 - 2 = i * 2 := by omega
        simp only [List.length_cons, List.length_nil]
        rw [show (i + 1) * 2 - (0 + 1 + 1) = i * 2 by omega]
        simpa using (ih i (by simpa using h)).1
      · rw [List.getElem?_append_right (by simp; omega)]
        simp only [List.length_cons, List.length_nil]
        rw [show (i + 1) * 2 + 1 - (0 + 1 + 1) = i * 2 + 1 by omega]
        simpa using (ih i (by simpa using h)).2
def areasFP (F : List Fc) : List (Int × Int) × Int := if checkFP F = 0 then (F.map fun f => (f.set, areaP f.rg), 0) else ([], checkFP F)
def AsPost (w : World) (x : List (Int × Int) × Int) (e : Ending) (w' : World) : Prop :=
  ∃ v, e = .returned (.tuple #[v, .int .i64 x.2]) ∧ w'.ownsRow w.heap.size 56 2 v x.1.length (prCells x.1) ∧ Below w.heap.size w w'
theorem Tryz.infoPair : (Tryz.prog.info? 56).map (fun i => (i.zero, i.size, i.bytes)) = some (some (.agg #[.int .i64 0, .int .i64 0]), 2, 16) := by kernel_rfl

set_option maxHeartbeats 4000000 in
set_option maxRecDepth 100000 in
theorem areasF_any (A : Option Addr) (n c : Nat) (l : FL) (w : World) (hA : SlF w A n c l) (hn200 : n ≤ 1000) : Calls Tryz.prog 23 #[.slice A n c] w (AsPost w (areasFP (fcs l))) := by
  obtain ⟨i0, hi, hz0, hz1, hz2⟩ := info_parts Tryz.infoPair
  have hlen : (fcs l).length = n := by rw [fcs, List.length_map]; exact hA.len
  have HA := Lib.hid hA
  have Hck := Lib.hid (check_any A n c l w hA)
  have Hres : Hid (areasFP (fcs l) = if checkFP (fcs l) = 0 then ((fcs l).map fun f => (f.set, areaP f.rg), 0) else ([], checkFP (fcs l))) := Lib.hid rfl
  have Hlen := Lib.hid hlen
  generalize areasFP (fcs l) = res at *
  generalize checkFP (fcs l) = er at *
  clear hA hlen
  go_enter Tryz.func23, Tryz.ntmps23
  by_cases her : er = 0
  · subst her
    go_upto_region 6 with (first | (go_at_call 44; refine Hck.out.mono ?_; rintro e w1 ⟨rfl, hb1⟩) | fail)
    have Hb1 := Lib.hid hb1
    have hs1 := hb1.size
    clear hb1 Hck
    go_loopw [5, 15] (fun v iv wr => ∃ k : Nat, iv = .int .i64 (k : Int) ∧ k ≤ n ∧ wr.ownsRow w.heap.size 56 2 v k (prCells (((fcs l).take k).map fun f => (f.set, areaP f.rg))) ∧ Below w.heap.size w wr) (fun _ iv _ => n - (intOf iv).toNat)
    case atStart => exact ⟨0, rfl, by omega, World.ownsRow_nil _ _ _ _, Hb1.out⟩
    case round =>
      obtain ⟨k, rfl, hkn, hown, hbr⟩ := hrel
      have Hbr := Lib.hid hbr
      have hsr := hbr.size
      have Hown := Lib.hid hown
      obtain ⟨VA, vc, rfl, _, _, _⟩ := own_slice hown
      clear hbr hown
      by_cases hk : k < n
      · have hk' : (k : Int) < (n : Int) := by omega
        have hkl : k < l.length := by have := HA.out.len; omega
        obtain ⟨b, off, rfl, hb, c0, c1, hsl⟩ := (HA.out.below Hbr.out).at k hkl
        have Hnx : Hid (prCells (((fcs l).take (k + 1)).map fun f => (f.set, areaP f.rg)) = prCells (((fcs l).take k).map fun f => (f.set, areaP f.rg)) ++ [.int .i64 l[k].1.set, .int .i64 (areaP l[k].1.rg)]) := Lib.hid (by
          rw [List.take_succ_eq_append_getElem (by rw [Hlen.out]; exact hk), List.map_append, List.map_singleton, prCells_snoc]
          simp [fcs])
        have Har := Lib.hid (fun W hW => area_any _ _ _ _ W (hsl.below hW))
        obtain ⟨z, hz⟩ : ∃ z, l[k].1.set = z := ⟨_, rfl⟩
        obtain ⟨D, hD⟩ : ∃ D, l[k].2.a = D := ⟨_, rfl⟩
        obtain ⟨q, hq⟩ : ∃ q, l[k].1.rg.length = q := ⟨_, rfl⟩
        obtain ⟨d, hd⟩ : ∃ d, l[k].2.c = d := ⟨_, rfl⟩
        obtain ⟨ar, har⟩ : ∃ ar, areaP l[k].1.rg = ar := ⟨_, rfl⟩
        rw [hz, har] at Hnx
        rw [hD, hq, hd, har] at Har
        rw [hz] at c0
        rw [hD, hq, hd] at c1
        clear hz hD hq hd har hsl
        go_upto_region 8 with fail
        have Hrow : Hid ((wr.alloc (.cells #[.int .i64 z, .slice D q d] 36)).heap[wr.heap.size]? = some (.cells #[.int .i64 z, .slice D q d] 36 (0, 0))) := Lib.hid (heap_alloc_new wr _)
        have Hb8 : Hid (Below wr.heap.size wr (wr.alloc (.cells #[.int .i64 z, .slice D q d] 36))) := Lib.hid ((Below.refl _ _).alloc (Nat.le_refl _) _)
        have hs8 : wr.heap.size < (wr.alloc (.cells #[.int .i64 z, .slice D q d] 36)).heap.size := by simp
        generalize wr.alloc (.cells #[.int .i64 z, .slice D q d] 36) = w8 at *
        have Hown8 := Lib.hid (ownsRow_below Hown.out Hb8.out)
        obtain ⟨P0, hP0⟩ : ∃ P, wr.heap.size = P := ⟨_, rfl⟩
        rw [hP0] at Hrow hs8 ⊢
        have hP0w : w.heap.size ≤ P0 := by omega
        refine wp_region_held (S := fun w' => w'.cell? ⟨P0, 0, none⟩ = some (.int .i64 z) ∧ w'.cell? ⟨P0, 1, none⟩ = some (.slice D q d)) (by kernel_rfl) ?_
        change wpAnyH _ _ _ _ _ 10 #[false, false, false, false, false, false, false, false, false, false] _ w8.drew
        have y0 := cell_of_row _ _ 0 _ _ _ Hrow.out
        have y1 := cell_of_row _ _ 1 _ _ _ Hrow.out
        have hHeld : (fun w' : World => w'.cell? ⟨P0, 0, none⟩ = some (.int .i64 z) ∧ w'.cell? ⟨P0, 1, none⟩ = some (.slice D q d)) w8.drew := ⟨y0, y1⟩
        obtain ⟨w9, hw9⟩ : ∃ w9 : World, w9 = w8.drew := ⟨_, rfl⟩
        have Hrow9 : Hid (w9.heap[P0]? = some (.cells #[.int .i64 z, .slice D q d] 36 (0, 0))) := Lib.hid (by rw [hw9]; exact Hrow.out)
        have Hb9 : Hid (Below wr.heap.size wr w9) := Lib.hid (by rw [hw9]; exact Hb8.out.drew)
        have Hown9 : Hid (w9.ownsRow w.heap.size 56 2 (.slice VA k vc) k (prCells (((fcs l).take k).map fun f => (f.set, areaP f.rg)))) := Lib.hid (by rw [hw9]; exact Hown8.out)
        have hs9 : P0 < w9.heap.size := by rw [hw9]; exact hs8
        rw [← hw9] at hHeld ⊢
        clear hw9 y0 y1 Hrow Hb8 Hown8 hs8
        refine wpAnyH_take (i := 0) (v := ?vva0) rfl (by kernel_rfl) (by kernel_rfl) (by kernel_rfl) (fun _ _ _ h => h) (Or.inl ⟨by rfl, ?hya0⟩) hHeld ?resta0; (case hya0 => (intro w hSw; (try dsimp only at hSw); go_simp; all_goals (with_reducible rfl))); simp only [Act.put, List.getElem_toArray, List.getElem_cons_zero, List.getElem_cons_succ, List.setIfInBounds_toArray, List.set_cons_zero, List.set_cons_succ]
        refine wpAnyH_take (i := 1) (v := ?vva1) rfl (by kernel_rfl) (by kernel_rfl) (by kernel_rfl) (fun _ _ _ h => h) (Or.inl ⟨by rfl, ?hya1⟩) hHeld ?resta1; (case hya1 => (intro w hSw; (try dsimp only at hSw); go_simp; all_goals (with_reducible rfl))); simp only [Act.put, List.getElem_toArray, List.getElem_cons_zero, List.getElem_cons_succ, List.setIfInBounds_toArray, List.set_cons_zero, List.set_cons_succ]
        refine wpAnyH_take (i := 2) (v := ?vva2) rfl (by kernel_rfl) (by kernel_rfl) (by kernel_rfl) (fun _ _ _ h => h) (Or.inl ⟨by rfl, ?hya2⟩) hHeld ?resta2; (case hya2 => (intro w hSw; (try dsimp only at hSw); go_simp; all_goals (with_reducible rfl))); simp only [Act.put, List.getElem_toArray, List.getElem_cons_zero, List.getElem_cons_succ, List.setIfInBounds_toArray, List.set_cons_zero, List.set_cons_succ]
        refine wpAnyH_take (i := 3) (v := ?vva3) rfl (by kernel_rfl) (by kernel_rfl) (by kernel_rfl) (fun _ _ _ h => h) (Or.inl ⟨by rfl, ?hya3⟩) hHeld ?resta3; (case hya3 => (intro w hSw; (try dsimp only at hSw); go_simp; all_goals (with_reducible rfl))); simp only [Act.put, List.getElem_toArray, List.getElem_cons_zero, List.getElem_cons_succ, List.setIfInBounds_toArray, List.set_cons_zero, List.set_cons_succ]
        refine wpAnyH_take (i := 4) (v := ?vva4) rfl (by kernel_rfl) (by kernel_rfl) (by kernel_rfl) (fun _ _ _ h => h) (Or.inl ⟨by rfl, ?hya4⟩) hHeld ?resta4; (case hya4 => (intro w hSw; (try dsimp only at hSw); go_simp; all_goals (with_reducible rfl))); simp only [Act.put, List.getElem_toArray, List.getElem_cons_zero, List.getElem_cons_succ, List.setIfInBounds_toArray, List.set_cons_zero, List.set_cons_succ]
        refine wpAnyH_ready (rs := [5]) (by kernel_rfl) (by simp) ?_; refine AllReadyH.cons rfl (fun K hK => ?_) AllReadyH.nil
        go_simp
        refine (Har.out _ Hb9.out).mono ?_
        rintro e w5 ⟨rfl, hb5⟩
        have hrow5 := (hb5.block P0 hs9).trans Hrow9.out
        have Hb5 := Lib.hid hb5
        have Hown5 := Lib.hid (ownsRow_below Hown9.out hb5)
        have hs5 := hb5.size
        refine hK.out _ _ ⟨cell_of_row _ _ 0 _ _ _ hrow5, cell_of_row _ _ 1 _ _ _ hrow5⟩ (fun hHeld => ?_)
        have Hrow5 := Lib.hid hrow5
        clear hK K hrow5 hb5
        try simp only [Act.put, List.getElem_toArray, List.getElem_cons_zero, List.getElem_cons_succ, List.setIfInBounds_toArray, List.set_cons_zero, List.set_cons_succ]
        refine wpAnyH_take (i := 6) (v := ?vva6) rfl (by kernel_rfl) (by kernel_rfl) (by kernel_rfl) (fun _ _ _ h => h) (Or.inl ⟨by rfl, ?hya6⟩) hHeld ?resta6; (case hya6 => (intro w hSw; (try dsimp only at hSw); go_simp; all_goals (with_reducible rfl))); simp only [Act.put, List.getElem_toArray, List.getElem_cons_zero, List.getElem_cons_succ, List.setIfInBounds_toArray, List.set_cons_zero, List.set_cons_succ]
        refine wpAnyH_ready (rs := [7]) (by kernel_rfl) (by simp) ?_; refine AllReadyH.cons rfl (fun K hK => ?_) AllReadyH.nil
        go_simp
        have hrow6 : (w5.alloc (.cells #[.int .i64 z, .int .i64 ar] 56)).heap[P0]? = _ := (Below.heap_alloc _ _ _ (by omega)).trans Hrow5.out
        refine hK.out _ _ ⟨cell_of_row _ _ 0 _ _ _ hrow6, cell_of_row _ _ 1 _ _ _ hrow6⟩ (fun hHeld => ?_)
        clear hK K hrow6
        try simp only [Act.put, List.getElem_toArray, List.getElem_cons_zero, List.getElem_cons_succ, List.setIfInBounds_toArray, List.set_cons_zero, List.set_cons_succ]
        refine wpAnyH_ready (rs := [8]) (by kernel_rfl) (by simp) ?_; refine AllReadyH.cons rfl (fun K hK => ?_) AllReadyH.nil
        refine step_append_any _ rfl (.tmp 19) (.tmp 26) 53 rfl w.heap.size 56 i0 (.agg #[.int .i64 0, .int .i64 0]) 2 16 Tryz.underlying53 hi hz0 hz1 hz2 rfl (by omega) (.slice VA k vc) k (prCells (((fcs l).take k).map fun f => (f.set, areaP f.rg))) rfl (Hown5.out.alloc _) (w5.heap.size + 1) _ 1 1 [.int .i64 z, .int .i64 ar] rfl ⟨rfl, fun _ => ⟨_, rfl, Nat.lt_succ_self _, fun j u hu => (by exact World.news_of_block (heap_alloc_new w5 (.cells #[.int .i64 z, .int .i64 ar] 56)) j u hu)⟩⟩ (by simp [Value.oneCell']) (by simp only [maxLen]; omega) (by omega) (by have := Hb9.out.size; simp; omega) ?_
        intro v7 w7 hown7 hg7 hat7
        have hob := own_base Hown5.out
        have hP05 : (Value.slice VA k vc).ownBlock ≠ some P0 := fun e => by have := own_lt Hown.out _ e; omega
        have hrow7 := (hg7.block P0 (by simp; omega) (fun e => hP05 e.symm)).trans ((Below.heap_alloc _ _ _ (by omega)).trans Hrow5.out)
        obtain ⟨VB, vd, rfl, _, _, _⟩ := own_slice hown7
        have Hown7 := Lib.hid hown7
        have hsw9 := Hb9.out.size
        have Hb7 : Hid (Below w.heap.size w w7) := Lib.hid (((Hbr.out.trans ((Hb9.out.trans (Hb5.out.mono hsw9)).mono hsr)).alloc (by omega) _).grown hg7 (by simp; omega) (fun b e => hob b e))
        refine hK.out _ _ ⟨cell_of_row _ _ 0 _ _ _ hrow7, cell_of_row _ _ 1 _ _ _ hrow7⟩ (fun hHeld => ?_)
        clear hK K hrow7 hown7 hg7 hat7 hob hP05
        try simp only [Act.put, List.getElem_toArray, List.getElem_cons_zero, List.getElem_cons_succ, List.setIfInBounds_toArray, List.set_cons_zero, List.set_cons_succ]
        refine wpAnyH_take (i := 9) (v := ?vva9) rfl (by kernel_rfl) (by kernel_rfl) (by kernel_rfl) (fun _ _ _ h => h) (Or.inl ⟨by rfl, ?hya9⟩) hHeld ?resta9; (case hya9 => (intro w hSw; (try dsimp only at hSw); go_simp; all_goals (with_reducible rfl))); simp only [Act.put, List.getElem_toArray, List.getElem_cons_zero, List.getElem_cons_succ, List.setIfInBounds_toArray, List.set_cons_zero, List.set_cons_succ]
        refine wpAnyH_done (by kernel_rfl) ?_ _
        clear hHeld
        go_wp2
        go_roundw
        case rel => exact ⟨k + 1, by go_num, by omega, by rw [Hnx.out]; exact Hown7.out, Hb7.out⟩
        case measure => simp [intOf]; omega
      · obtain rfl : k = n := by omega
        go_wp2
        go_ret2
        rw [Hres.out, if_pos trivial]
        refine ⟨_, rfl, ?_, Hbr.out⟩
        have := Hown.out
        rw [List.take_of_length_le (by rw [Hlen.out]; exact Nat.le_refl _)] at this
        rw [List.length_map, Hlen.out]
        exact this
  · go_wp2_with (first | (go_at_call 44; refine Hck.out.mono ?_; rintro e w1 ⟨rfl, hb1⟩) | fail)
    go_ret2
    rw [Hres.out, if_neg her]
    exact ⟨_, rfl, World.ownsRow_nil _ _ _ _, hb1⟩

def pickF (s : Int) (f : Fc) : Bool := decide (0 ≤ s) && decide (bits BinOp.and IntKind.i64 f.set s = s)
def pickP (F : List Fc) (s : Int) : List R4 := (F.filter (pickF s)).flatMap Fc.rg
def commonFP (F : List Fc) (s : Int) : List R4 × Int := if checkFP F = 0 then limP (canonP (pickP F s)) else ([], checkFP F)
theorem pickP_snoc (F : List Fc) (f : Fc) (s : Int) : pickP (F ++ [f]) s = if pickF s f then pickP F s ++ f.rg else pickP F s := by
  unfold pickP
  rw [List.filter_append]
  cases h : pickF s f <;> simp [h]
theorem pickP_le (F : List Fc) (s : Int) (k : Nat) : (pickP (F.take k) s).length ≤ (F.flatMap Fc.rg).length := by
  have h1 : ∀ F : List Fc, (pickP F s).length ≤ (F.flatMap Fc.rg).length := by
    intro F
    induction F with
    | nil => exact Nat.le_refl _
    | cons a t ih =>
      have : pickP (a :: t) s = if pickF s a then a.rg ++ pickP t s else pickP t s := by
        unfold pickP
        cases h : pickF s a <;> simp [h]
      rw [this, List.flatMap_cons, List.length_append]
      split
      · rw [List.length_append]; omega
      · omega
  refine Nat.le_trans (h1 _) ?_
  conv => rhs; rw [← List.take_append_drop k F]
  rw [List.flatMap_append, List.length_append]
  omega
theorem check_ok {F : List Fc} (h : checkFP F = 0) : F.length ≤ 200 ∧ F.all (fun f => validP f.rg) = true ∧ ascF F = true := by
  unfold checkFP at h
  split at h
  · cases h
  · rename_i h1
    split at h
    · rename_i h2
      split at h
      · rename_i h3
        exact ⟨by omega, h2, h3⟩
      · cases h
    · cases h
theorem pickP_pos {F : List Fc} (h : checkFP F = 0) (s : Int) : ∀ q ∈ pickP F s, q.l < q.r := by
  intro q hq
  obtain ⟨f, hf, hq⟩ := List.mem_flatMap.1 hq
  exact ok_pos (valid_parts (List.all_eq_true.1 (check_ok h).2.1 f (List.mem_filter.1 hf).1)).2.1 q hq

set_option maxHeartbeats 4000000 in
set_option maxRecDepth 100000 in
theorem commonF_any (A : Option Addr) (n c : Nat) (l : FL) (s : Int) (w : World) (hA : SlF w A n c l) (hn200 : n ≤ 1000) (hN : ((fcs l).flatMap Fc.rg).length ≤ 50000) (hcut : checkFP (fcs l) = 0 → (cutsP (pickP (fcs l) s)).length ≤ 100) :
    Calls Tryz.prog 20 #[.slice A n c, .int .i64 s] w (RegPost w (commonFP (fcs l) s)) := by
  obtain ⟨i0, hi, hz0, hz1, hz2⟩ := info_parts Tryz.infoRect
  have hlen : (fcs l).length = n := by rw [fcs, List.length_map]; exact hA.len
  have HA := Lib.hid hA
  have Hck := Lib.hid (fun W (hW : Below w.heap.size w W) => check_any A n c l W (hA.below hW))
  have Hres : Hid (commonFP (fcs l) s = if checkFP (fcs l) = 0 then limP (canonP (pickP (fcs l) s)) else ([], checkFP (fcs l))) := Lib.hid rfl
  have Hlen := Lib.hid hlen
  have Hcut := Lib.hid hcut
  have Hpos := Lib.hid (pickP_pos (F := fcs l) (s := s))
  have Hpl := Lib.hid (fun k => Nat.le_trans (pickP_le (fcs l) s k) hN)
  generalize commonFP (fcs l) s = res at *
  generalize checkFP (fcs l) = er at *
  clear hA hlen hcut hN
  go_enter Tryz.func20, Tryz.ntmps20
  by_cases her : er = 0
  · subst her
    have Hpos0 := Lib.hid (Hpos.out rfl)
    have Hcut0 := Lib.hid (Hcut.out rfl)
    have Hr : Hid (res = limP (canonP (pickP (fcs l) s))) := Lib.hid (by rw [Hres.out, if_pos rfl])
    clear Hpos Hcut Hres
    go_upto_region 6 with (first
      | (go_at_call 44
         refine (Hck.out _ (by repeat' (first | with_reducible exact Below.refl _ _ | with_reducible refine below_drewN ?_ _ | with_reducible refine Below.drew ?_ | with_reducible refine Below.alloc ?_ ?_ _ | with_reducible refine Below.setCell ?_ ?_ _ | with_reducible refine Below.trans ?_ (Below.mono (by with_reducible assumption) ?_) | (simp; done) | (simp; omega) | omega))).mono ?_
         rintro e w1 ⟨rfl, hb1⟩
         have Hx : Hid (w1.heap[w.heap.size]? = some (.cells #[.slice none 0 0] 34 (0, 0))) := Lib.hid ((hb1.block _ (by simp)).trans (heap_alloc_new w _))
         have Hb1 : Hid (Below w.heap.size w w1) := Lib.hid (show Below w.heap.size w w1 from (by have hbq := hb1; exact (by repeat' (first | with_reducible exact Below.refl _ _ | with_reducible assumption | with_reducible refine below_drewN ?_ _ | with_reducible refine Below.drew ?_ | with_reducible refine Below.alloc ?_ ?_ _ | with_reducible refine Below.setCell ?_ ?_ _ | with_reducible refine Below.trans ?_ (Below.mono (by with_reducible assumption) ?_) | with_reducible refine below_only ?_ (by with_reducible assumption) ?_ ?_ | (simp; done) | (simp; omega) | omega))))
         have hs1 : w.heap.size < w1.heap.size := by have := hb1.size; simp at this; omega
         clear hb1)
      | fail)
    clear Hck
    go_loopw [7, 18] (fun v iv wr => ∃ k : Nat, iv = .int .i64 (k : Int) ∧ k ≤ n ∧ wr.ownsRow w1.heap.size 42 4 v (pickP ((fcs l).take k) s).length (rCells (pickP ((fcs l).take k) s)) ∧ Below w1.heap.size w1 wr) (fun _ iv _ => n - (intOf iv).toNat)
    case atStart => exact ⟨0, rfl, by omega, World.ownsRow_nil _ _ _ _, Below.refl _ _⟩
    case round =>
      obtain ⟨k, rfl, hkn, hown, hbr⟩ := hrel
      have Hbr := Lib.hid hbr
      have hsr := hbr.size
      have Hown := Lib.hid hown
      obtain ⟨VA, vc, hv, hS⟩ := SlR.of_own hown
      subst hv
      have HS := Lib.hid hS
      clear hbr hown hS
      by_cases hk : k < n
      · have hk' : (k : Int) < (n : Int) := by omega
        have hkl : k < l.length := by have := HA.out.len; omega
        obtain ⟨b, off, rfl, hb, c0, c1, hsl⟩ := ((HA.out.below Hb1.out).below Hbr.out).at k hkl
        have Hnx : Hid (pickP ((fcs l).take (k + 1)) s = if pickF s l[k].1 then pickP ((fcs l).take k) s ++ l[k].1.rg else pickP ((fcs l).take k) s) := Lib.hid (by
          rw [List.take_succ_eq_append_getElem (by rw [Hlen.out]; exact hk), pickP_snoc]
          simp [fcs])
        have Hpk : Hid (pickF s l[k].1 = (decide (0 ≤ s) && decide (bits BinOp.and IntKind.i64 l[k].1.set s = s))) := Lib.hid rfl
        have hle := Hpl.out (k + 1)
        have hle0 := Hpl.out k
        obtain ⟨P, hP⟩ : ∃ P, pickP ((fcs l).take k) s = P := ⟨_, rfl⟩
        obtain ⟨P', hP'⟩ : ∃ P, pickP ((fcs l).take (k + 1)) s = P := ⟨_, rfl⟩
        rw [hP] at HS Hown Hnx hle0 ⊢
        rw [hP'] at Hnx hle
        have HP' := Lib.hid hP'
        have Hrd := Lib.hid (hsl.lies.reads (size := 4) (by rw [rCells_len]))
        obtain ⟨z, hz⟩ : ∃ z, l[k].1.set = z := ⟨_, rfl⟩
        obtain ⟨D, hD⟩ : ∃ D, l[k].2.a = D := ⟨_, rfl⟩
        obtain ⟨rg, hrg⟩ : ∃ rg, l[k].1.rg = rg := ⟨_, rfl⟩
        obtain ⟨d, hd⟩ : ∃ d, l[k].2.c = d := ⟨_, rfl⟩
        obtain ⟨pk, hpk⟩ : ∃ pk, pickF s l[k].1 = pk := ⟨_, rfl⟩
        rw [hpk, hrg] at Hnx
        rw [hpk, hz] at Hpk
        rw [hD, hrg] at Hrd
        rw [hz] at c0
        rw [hD, hrg, hd] at c1
        clear hP hP' hz hD hrg hd hpk hsl
        have Hq : Hid (P' = if pk then P ++ rg else P) := Lib.hid Hnx.out
        obtain ⟨q, hq⟩ : ∃ q, rg.length = q := ⟨_, rfl⟩
        obtain ⟨pn, hpn⟩ : ∃ pn, P.length = pn := ⟨_, rfl⟩
        rw [hq] at c1 Hrd
        rw [hpn] at Hown HS ⊢
        have Hqn := Lib.hid hq
        have Hpn := Lib.hid hpn
        have hpq : pk = true → pn + q ≤ 50000 := fun h => by have := hle; rw [Hq.out, h, if_pos rfl, List.length_append] at this; omega
        have hpn5 : pn ≤ 50000 := by omega
        clear hq hpn
        by_cases h0 : 0 ≤ s
        · by_cases h1 : bits BinOp.and IntKind.i64 z s = s
          · have hpk : pk = true := by rw [Hpk.out]; simp [h0, h1]
            have hpq' := hpq hpk
            have Hq' : Hid (P' = P ++ rg) := Lib.hid (by rw [Hq.out, hpk, if_pos rfl])
            clear Hq hpk hpq Hpk
            go_wp2_with (first
              | (at_builtin
                 refine wpList_append_any _ rfl (.tmp 32) (.tmp 35) _ rfl w1.heap.size 42 i0 _ 4 32 Tryz.underlying32 hi hz0 hz1 hz2 rfl (by omega) _ pn (rCells P) rfl (World.ownsRow.alloc Hown.out _) wr.heap.size _ q d (rCells rg) rfl (Hrd.out.below ((Below.refl _ _).alloc (Nat.le_refl _) _)) (rCells_one rg) (by simp only [maxLen]; omega) (by omega) (by simp; omega) ?_
                 intro v6 w6 hown6 hg6 hat6
                 have hob := own_base Hown.out
                 obtain ⟨VB, vd, rfl, _, _, _⟩ := own_slice hown6
                 have Hown6 := Lib.hid hown6
                 have Hb6 : Hid (Below w1.heap.size w1 w6) := Lib.hid ((Hbr.out.alloc hsr _).grown hg6 (by simp; omega) (fun b e => hob b e))
                 clear hown6 hg6 hat6 hob)
              | fail)
            go_roundw
            case rel => exact ⟨k + 1, by go_num, by omega, by
              rw [HP'.out, Hq'.out, List.length_append, Hpn.out, Hqn.out, show rCells (P ++ rg) = rCells P ++ rCells rg by simp [rCells]]
              exact Hown6.out, Hb6.out⟩
            case measure => simp [intOf]; omega
          · have h1' : (bits BinOp.and IntKind.i64 z s == s) = false := by simpa using h1
            have Hq' : Hid (P' = P) := Lib.hid (by rw [Hq.out, Hpk.out]; simp [h1])
            clear Hq hpq Hpk
            go_wp2
            go_roundw
            case rel => exact ⟨k + 1, by go_num, by omega, by rw [HP'.out, Hq'.out, Hpn.out]; exact Hown.out.alloc _, Hbr.out.alloc hsr _⟩
            case measure => simp [intOf]; omega
        · have h0' : ¬ 0 ≤ s := h0
          have Hq' : Hid (P' = P) := Lib.hid (by rw [Hq.out, Hpk.out]; simp [h0])
          clear Hq hpq Hpk
          go_wp2
          go_roundw
          case rel => exact ⟨k + 1, by go_num, by omega, by rw [HP'.out, Hq'.out, Hpn.out]; exact Hown.out.alloc _, Hbr.out.alloc hsr _⟩
          case measure => simp [intOf]; omega
      · obtain rfl : k = n := by omega
        have htk : (fcs l).take k = fcs l := List.take_of_length_le (by rw [Hlen.out]; exact Nat.le_refl _)
        rw [htk] at HS Hown ⊢
        have Hle := Lib.hid (by have := Hpl.out k; rw [htk] at this; exact this)
        clear htk
        obtain ⟨P, hP⟩ : ∃ P, pickP (fcs l) s = P := ⟨_, rfl⟩
        rw [hP] at HS Hown Hle Hpos0 Hcut0 Hr ⊢
        clear hP
        have Hj := Lib.hid (joined_big VA P.length vc P wr HS.out Hle.out Hcut0.out Hpos0.out)
        rw [← Hr.out] at Hj
        obtain ⟨cl, er⟩ := res
        have Hxr : Hid (wr.heap[w.heap.size]? = some (.cells #[.slice none 0 0] 34 (0, 0))) := Lib.hid ((Hbr.out.block _ hs1).trans Hx.out)
        have hwr : w.heap.size < wr.heap.size := by omega
        go_wp2_with (first
          | (go_at_call 31
             refine Hj.out.mono ?_
             rintro e w2 ⟨v2, rfl, hown2, hb2⟩
             obtain ⟨E, ec, rfl, _⟩ := SlR.of_own hown2
             have hx2 := (hb2.block _ hwr).trans Hxr.out
             have x0 := cell_of_row _ _ 0 _ _ _ hx2
             have f0 := frozen_of_row _ _ 0 _ _ hx2
             have csame : (w2.setCell ⟨w.heap.size, 0, none⟩ (.slice E cl.length ec)).cell? ⟨w.heap.size, 0, none⟩ = some (.slice E cl.length ec) := World.cell?_setCell_same' _ _ _ (by rw [x0]; rfl)
             have Hown2 := Lib.hid hown2
             have Hb2 := Lib.hid hb2
             clear hown2 hb2 hx2)
          | fail)
        refine bodyPost_ret (v := .tuple #[.agg #[.slice E cl.length ec], .int .i64 er]) (by simp [results, Tryz.results20, go_sem, *]) rfl ?_
        exact ⟨_, rfl, own_rebase (ownsRow_setCell_below Hown2.out (a := ⟨w.heap.size, 0, none⟩) hwr _) (by omega), ((Hb1.out.trans (Hbr.out.mono (by omega))).trans (Hb2.out.mono (by omega))).setCell (by show w.heap.size ≤ w.heap.size; omega) _⟩
  · go_wp2_with (first
      | (go_at_call 44
         refine (Hck.out _ (by repeat' (first | with_reducible exact Below.refl _ _ | with_reducible refine below_drewN ?_ _ | with_reducible refine Below.drew ?_ | with_reducible refine Below.alloc ?_ ?_ _ | with_reducible refine Below.setCell ?_ ?_ _ | with_reducible refine Below.trans ?_ (Below.mono (by with_reducible assumption) ?_) | (simp; done) | (simp; omega) | omega))).mono ?_
         rintro e w1 ⟨rfl, hb1⟩
         have hx1 : w1.heap[w.heap.size]? = some (.cells #[.slice none 0 0] 34 (0, 0)) := (hb1.block _ (by simp)).trans (heap_alloc_new w _)
         have x0 := cell_of_row _ _ 0 _ _ _ hx1
         have f0 := frozen_of_row _ _ 0 _ _ hx1
         have csame : (w1.setCell ⟨w.heap.size, 0, none⟩ (.slice none 0 0)).cell? ⟨w.heap.size, 0, none⟩ = some (.slice none 0 0) := World.cell?_setCell_same' _ _ _ (by rw [x0]; rfl)
         have Hb1 : Hid (Below w.heap.size w w1) := Lib.hid (show Below w.heap.size w w1 from (by have hbq := hb1; exact (by repeat' (first | with_reducible exact Below.refl _ _ | with_reducible assumption | with_reducible refine below_drewN ?_ _ | with_reducible refine Below.drew ?_ | with_reducible refine Below.alloc ?_ ?_ _ | with_reducible refine Below.setCell ?_ ?_ _ | with_reducible refine Below.trans ?_ (Below.mono (by with_reducible assumption) ?_) | with_reducible refine below_only ?_ (by with_reducible assumption) ?_ ?_ | (simp; done) | (simp; omega) | omega))))
         clear hb1 hx1)
      | fail)
    refine bodyPost_ret (v := .tuple #[.agg #[.slice none 0 0], .int .i64 er]) (by simp [results, Tryz.results20, go_sem, *]) rfl ?_
    rw [Hres.out, if_neg her]
    exact ⟨_, rfl, World.ownsRow_nil _ _ _ _, Hb1.out.setCell (by show w.heap.size ≤ w.heap.size; omega) _⟩
end Go.Proofs.YtabcadpfhachoaaGreat

namespace Go.Proofs.YtabcadpfhachoaaGreat
open Go.RowKit
set_option linter.unusedVariables false
set_option linter.unusedSimpArgs false

theorem sumI_bd' (g : Int → Int) (k : Int) : ∀ (n : Nat) (lo : Int), (∀ x, 0 ≤ g x ∧ g x ≤ k) → 0 ≤ sumI g lo n ∧ sumI g lo n ≤ n * k
  | 0, lo, h => by simp [sumI]
  | n + 1, lo, h => by
    have h1 := h lo
    have h2 := sumI_bd' g k n (lo + 1) h
    have e : ((n + 1 : Nat) : Int) * k = k + (n : Int) * k := by
      rw [Int.natCast_succ, Int.add_mul, Int.one_mul, Int.add_comm]
    rw [e]
    unfold sumI
    omega
theorem ind_bd (b : Bool) : 0 ≤ ind b ∧ ind b ≤ 1 := by cases b <;> simp [ind]
theorem area_bd {s m : Nat} {l : List R4} (h : Reg s m l) (hs : s ≤ 10) (hm : m ≤ 120) : 0 ≤ areaP l ∧ areaP l ≤ s * s := by
  obtain ⟨h1, h2⟩ := h.area hs hm
  rw [h1, ← h2]
  have h3 : ∀ x, 0 ≤ sumI (fun y => ind (inL l x y)) 0 s ∧ sumI (fun y => ind (inL l x y)) 0 s ≤ (s : Int) := fun x => by
    have := sumI_bd' (fun y => ind (inL l x y)) 1 s 0 (fun y => ind_bd _)
    rw [Int.mul_one] at this
    exact this
  exact sumI_bd' _ (s : Int) s 0 h3
theorem sumI_zero (n : Nat) (lo : Int) : sumI (fun _ => 0) lo n = 0 := by rw [sumI_const _ 0 n lo fun _ _ _ => rfl]; simp
theorem areas_sum {s m : Nat} (hs : s ≤ 10) (hm : m ≤ 120) : ∀ (G : List Fc), (∀ f ∈ G, Reg s m f.rg) → (G.map fun f => areaP f.rg).sum = sumI (fun x => sumI (fun y => (G.map fun f => ind (inL f.rg x y)).sum) 0 s) 0 s
  | [], _ => by
    show (0 : Int) = sumI (fun x => sumI (fun y => 0) 0 s) 0 s
    rw [show (fun _ : Int => sumI (fun _ => (0 : Int)) 0 s) = fun _ => 0 from by funext x; exact sumI_zero _ _]
    exact (sumI_zero _ _).symm
  | f :: t, h => by
    obtain ⟨h1, h2⟩ := (h f (by simp)).area hs hm
    have ih := areas_sum hs hm t (fun g hg => h g (List.mem_cons_of_mem _ hg))
    show areaP f.rg + (t.map fun f => areaP f.rg).sum = sumI (fun x => sumI (fun y => ind (inL f.rg x y) + (t.map fun f => ind (inL f.rg x y)).sum) 0 s) 0 s
    rw [ih, h1, ← h2, ← sumI_plus]
    refine sumI_congr _ _ _ _ fun x _ _ => ?_
    rw [← sumI_plus]
theorem ind_sum (t : Int) : ∀ (G : List Fc), (G.map Fc.set).Pairwise (· < ·) → (G.map fun f => ind (decide (t = f.set))).sum = ind (decide (t ∈ G.map Fc.set))
  | [], _ => by simp [ind]
  | f :: u, h => by
    rw [List.map_cons, List.pairwise_cons] at h
    have ih := ind_sum t u h.2
    rw [List.map_cons, List.sum_cons, ih, List.map_cons]
    by_cases e : t = f.set
    · have hn : t ∉ u.map Fc.set := fun hm => by have := h.1 t hm; omega
      rw [decide_eq_true e, decide_eq_true (List.mem_cons.2 (.inl e)), decide_eq_false hn]
      rfl
    · simp [e, ind]
def bitF (i : Nat) (f : Fc) : Bool := f.set.toNat.testBit i
theorem up_filter {F : List Fc} (h : (F.map Fc.set).Pairwise (· < ·)) (p : Fc → Bool) : ((F.filter p).map Fc.set).Pairwise (· < ·) := by
  rw [List.pairwise_map] at h ⊢
  exact h.filter p
theorem bit_mem {s : Nat} {m : List (List R4)} {F : List Fc} (hF : FacesOk s m F) (x y : Int) (i : Nat) : ((setAt m x y : Int) ∈ (F.filter (bitF i)).map Fc.set) ↔ (setAt m x y).testBit i = true := by
  constructor
  · intro h
    obtain ⟨f, hf, e⟩ := List.mem_map.1 h
    have := (List.mem_filter.1 hf).2
    unfold bitF at this
    rw [e, Int.toNat_natCast] at this
    exact this
  · intro h
    have hz : setAt m x y ≠ 0 := fun e => by rw [e] at h; simp at h
    obtain ⟨f, hf, e⟩ := hF.all x y hz
    refine List.mem_map.2 ⟨f, List.mem_filter.2 ⟨hf, ?_⟩, e⟩
    unfold bitF
    rw [e, Int.toNat_natCast]
    exact h
theorem bit_in {m : List (List R4)} (x y : Int) (i : Nat) (hi : i < m.length) : (setAt m x y).testBit i = inL m[i] x y := by
  rw [setAt_bit, List.getElem?_eq_getElem hi]
  rfl
/-- The areas of the faces with a region's bit add up to its area. -/
theorem bits_area {s : Nat} {m : List (List R4)} {F : List Fc} (hs : s ≤ 10) (hF : FacesOk s m F) (i : Nat) (hi : i < m.length) {k : Nat} (hk : k ≤ 120) (hr : Reg s k m[i]) : ((F.filter (bitF i)).map fun f => areaP f.rg).sum = areaP m[i] := by
  have hss : s * s ≤ 120 := by have : s * s ≤ 10 * 10 := Nat.mul_le_mul hs hs; omega
  rw [areas_sum hs hss _ fun f hf => hF.reg f (List.mem_filter.1 hf).1]
  obtain ⟨h1, h2⟩ := hr.area hs hk
  rw [h1, ← h2]
  refine sumI_congr _ _ _ _ fun x _ _ => sumI_congr _ _ _ _ fun y _ _ => ?_
  have e : (F.filter (bitF i)).map (fun f => ind (inL f.rg x y)) = (F.filter (bitF i)).map fun f => ind (decide ((setAt m x y : Int) = f.set)) := List.map_congr_left fun f hf => by rw [hF.at' f (List.mem_filter.1 hf).1]
  rw [e, ind_sum _ _ (up_filter hF.up _), ← bit_in x y i hi]
  congr 1
  rw [Bool.eq_iff_iff, decide_eq_true_iff]
  exact bit_mem hF x y i

theorem and_pow (z i : Nat) (hz : z < 2 ^ 62) (hi : i ≤ 60) : (bits BinOp.and IntKind.i64 (z : Int) ((2 ^ i : Nat) : Int) = ((2 ^ i : Nat) : Int)) ↔ z.testBit i = true := by
  have h1 : 2 ^ i < 2 ^ 62 := Nat.pow_lt_pow_right (by omega) (by omega)
  rw [and_i64n z (2 ^ i) hz h1, Int.ofNat_inj]
  constructor
  · intro h
    have := congrArg (fun n => n.testBit i) h
    simpa [Nat.testBit_and, Nat.testBit_two_pow_self] using this
  · intro h
    refine Nat.eq_of_testBit_eq fun j => ?_
    rw [Nat.testBit_and, Nat.testBit_two_pow]
    by_cases e : i = j
    · subst e; simp [h]
    · simp [e]
theorem inL_pick {s : Nat} {m : List (List R4)} {F : List Fc} (hF : FacesOk s m F) (t : Int) (x y : Int) : inL (pickP F t) x y = true ↔ ∃ f ∈ F, pickF t f = true ∧ f.set = (setAt m x y : Int) := by
  unfold inL
  rw [List.any_eq_true]
  constructor
  · rintro ⟨q, hq, h⟩
    obtain ⟨f, hf, hq⟩ := List.mem_flatMap.1 hq
    obtain ⟨hf1, hf2⟩ := List.mem_filter.1 hf
    have := hF.at' f hf1 x y
    unfold inL at this
    have h2 : (f.rg.any fun q => q.has x y) = true := List.any_eq_true.2 ⟨q, hq, h⟩
    rw [h2] at this
    exact ⟨f, hf1, hf2, (of_decide_eq_true this.symm).symm⟩
  · rintro ⟨f, hf, hp, e⟩
    have := hF.at' f hf x y
    rw [e, decide_eq_true rfl] at this
    unfold inL at this
    obtain ⟨q, hq, h⟩ := List.any_eq_true.1 this
    exact ⟨q, List.mem_flatMap.2 ⟨f, List.mem_filter.2 ⟨hf, hp⟩, hq⟩, h⟩
theorem pow12 {n : Nat} (h : n ≤ 12) : (2 : Int) ^ n ≤ 4096 := by
  have h1 : 2 ^ n ≤ 2 ^ 12 := Nat.pow_le_pow_right (by omega) h
  have := Int.ofNat_le.2 h1
  simpa using this
theorem faces_check {s : Nat} {m : List (List R4)} {F : List Fc} (hs : s ≤ 10) (hm : m.length ≤ 7) (hF : FacesOk s m F) : checkFP F = 0 := by
  have hl := faces_len hF
  have hp : 2 ^ m.length ≤ 2 ^ 7 := Nat.pow_le_pow_right (by omega) hm
  have hss : s * s ≤ 120 := by have : s * s ≤ 10 * 10 := Nat.mul_le_mul hs hs; omega
  unfold checkFP
  rw [if_neg (by omega), if_pos (List.all_eq_true.2 fun f hf => (hF.reg f hf).valid (by omega) hss), if_pos]
  refine List.all_eq_true.2 fun k hk => ?_
  have hk := List.mem_range.1 hk
  have hp4 := pow12 (n := m.length) (by omega)
  have h1 : (F.getD k ⟨0, []⟩) = F[k] := by simp [List.getD, List.getElem?_eq_getElem hk]
  have h2 := hF.pos F[k] (List.getElem_mem hk)
  unfold okAt
  rw [h1, Bool.and_eq_true, decide_eq_true_iff, decide_eq_true_iff]
  refine ⟨?_, by omega⟩
  cases k with
  | zero => exact h2.1
  | succ j =>
    have h3 : (F.getD j ⟨0, []⟩) = F[j] := by simp [List.getD, List.getElem?_eq_getElem (show j < F.length by omega)]
    show (F.getD j ⟨0, []⟩).set < _
    rw [h3]
    have := hF.up
    rw [List.pairwise_iff_getElem] at this
    have := this j (j + 1) (by simpa using (show j < F.length by omega)) (by simpa using hk) (by omega)
    simpa using this
theorem pick_ins {s : Nat} {m : List (List R4)} {F : List Fc} (hF : FacesOk s m F) (t : Int) : InS s (pickP F t) := by
  intro q hq
  obtain ⟨f, hf, hq⟩ := List.mem_flatMap.1 hq
  exact (hF.reg f (List.mem_filter.1 hf).1).ins q hq
theorem canon_reg {s : Nat} {l : List R4} (h : InS (s : Int) l) : Reg s (s * s) (canonP l) := ⟨canonP_in h, canonP_idem h, canonP_side h⟩
theorem canon_is {s k : Nat} {l a : List R4} (h : InS (s : Int) l) (ha : Reg s k a) (he : ∀ x y, inL l x y = inL a x y) : canonP l = a := by
  refine reg_same (canon_reg h) ha fun x y => ?_
  rw [← he, canonP_or l h.pos, choose_mem orB rfl h.pos (fun q hq => by cases hq)]
  simp [orB, inL]
theorem common_lim {s : Nat} {F : List Fc} {m : List (List R4)} (hs : s ≤ 10) (hm : m.length ≤ 7) (hF : FacesOk s m F) (t : Int) : commonFP F t = (canonP (pickP F t), 0) := by
  have h1 := canonP_side (pick_ins hF t)
  have h2 : s * s ≤ 10 * 10 := Nat.mul_le_mul hs hs
  unfold commonFP limP
  rw [if_pos (faces_check hs hm hF), if_neg (by omega)]
/-- The faces with a region's bit are the region. -/
theorem common_bit {s k : Nat} {m : List (List R4)} {F : List Fc} (hs : s ≤ 10) (hm : m.length ≤ 7) (hF : FacesOk s m F) (i : Nat) (hi : i < m.length) (hr : Reg s k m[i]) : commonFP F ((2 ^ i : Nat) : Int) = (m[i], 0) := by
  rw [common_lim hs hm hF]
  congr 1
  refine canon_is (pick_ins hF _) hr fun x y => bool_eq ?_
  rw [inL_pick hF, ← bit_in x y i hi]
  have hp4 := pow12 (n := m.length) (by omega)
  constructor
  · rintro ⟨f, hf, hp, e⟩
    have h2 := hF.pos f hf
    obtain ⟨z, hz⟩ := Int.eq_ofNat_of_zero_le (show 0 ≤ f.set by omega)
    unfold pickF at hp
    rw [hz] at hp e h2
    simp only [Bool.and_eq_true, decide_eq_true_eq] at hp
    have := (and_pow z i (by omega) (by omega)).1 hp.2
    rwa [← Int.ofNat_inj.1 e]
  · intro h
    have hz : setAt m x y ≠ 0 := fun e => by rw [e] at h; simp at h
    obtain ⟨f, hf, e⟩ := hF.all x y hz
    have h2 := hF.pos f hf
    refine ⟨f, hf, ?_, e⟩
    unfold pickF
    rw [e] at h2 ⊢
    simp only [Bool.and_eq_true, decide_eq_true_eq]
    exact ⟨Int.natCast_nonneg _, (and_pow _ i (by omega) (by omega)).2 h⟩
theorem inL_flatten (m : List (List R4)) (x y : Int) : inL m.flatten x y = true ↔ ∃ a ∈ m, inL a x y = true := by
  unfold inL
  rw [List.any_flatten, List.any_eq_true]
theorem setAt_pos (m : List (List R4)) (x y : Int) : setAt m x y ≠ 0 ↔ ∃ a ∈ m, inL a x y = true := by
  unfold setAt
  rw [Ne, maskL_zero]
  constructor
  · intro h
    apply Classical.byContradiction
    intro hn
    apply h
    intro b hb
    obtain ⟨a, ha, rfl⟩ := List.mem_map.1 hb
    cases e : inL a x y
    · rfl
    · exact absurd ⟨a, ha, e⟩ hn
  · rintro ⟨a, ha, e⟩ h
    have := h (inL a x y) (List.mem_map.2 ⟨a, ha, rfl⟩)
    rw [e] at this
    cases this
theorem flat_ins {s : Nat} {k : Nat} {m : List (List R4)} (hr : ∀ a ∈ m, Reg s k a) : InS (s : Int) m.flatten := by
  intro q hq
  obtain ⟨a, ha, hq⟩ := List.mem_flatten.1 hq
  exact (hr a ha).ins q hq
/-- All faces are the union of all regions. -/
theorem union_all {s k : Nat} {m : List (List R4)} {F : List Fc} (hs : s ≤ 10) (hF : FacesOk s m F) (hr : ∀ a ∈ m, Reg s k a) (hl : m.flatten.length ≤ 120) (hml : m.length ≤ 60) : ofL m.flatten = (canonP (pickP F 0), 0) := by
  have hin := flat_ins hr
  have h1 := canonP_side hin
  have h2 : s * s ≤ 10 * 10 := Nat.mul_le_mul hs hs
  rw [← ofP_eq]
  unfold ofP
  rw [if_neg (by omega), if_pos (hin.ok (by omega)), if_neg (by omega)]
  congr 1
  refine canon_is hin (canon_reg (pick_ins hF 0)) fun x y => ?_
  have hp := pick_ins hF 0
  rw [canonP_or (pickP F 0) hp.pos, choose_mem orB rfl hp.pos (fun q hq => by cases hq)]
  refine bool_eq ?_
  simp only [orB, show inL [] x y = false from rfl, Bool.or_false]
  rw [inL_pick hF, inL_flatten, ← setAt_pos]
  constructor
  · intro h
    obtain ⟨f, hf, e⟩ := hF.all x y h
    refine ⟨f, hf, ?_, e⟩
    have h2 := hF.pos f hf
    obtain ⟨z, hz⟩ := Int.eq_ofNat_of_zero_le (show 0 ≤ f.set by omega)
    unfold pickF
    simp only [Bool.and_eq_true, decide_eq_true_eq]
    refine ⟨Int.le_refl _, ?_⟩
    rw [e, show (0 : Int) = ((0 : Nat) : Int) from rfl]
    have h3 : setAt m x y < 2 ^ 62 := Nat.lt_of_lt_of_le (setAt_lt m x y) (Nat.pow_le_pow_right (by omega) (by omega))
    rw [and_i64n _ _ h3 (by omega), Nat.and_zero]
  · rintro ⟨f, hf, _, e⟩ h0
    have h2 := hF.pos f hf
    rw [e, h0] at h2
    exact absurd h2.1 (by omega)

def sumA (i : Nat) (G : List Fc) : Int := ((G.filter (bitF i)).map fun f => areaP f.rg).sum
theorem sumA_snoc (i : Nat) (G : List Fc) (f : Fc) : sumA i (G ++ [f]) = sumA i G + if bitF i f then areaP f.rg else 0 := by
  unfold sumA
  rw [List.filter_append]
  cases h : bitF i f <;> simp [h]
theorem sumA_bd (i : Nat) (k : Int) : ∀ (G : List Fc), (∀ f ∈ G, 0 ≤ areaP f.rg ∧ areaP f.rg ≤ k) → 0 ≤ sumA i G ∧ sumA i G ≤ k * G.length
  | [], _ => by simp [sumA]
  | f :: t, h => by
    have h1 := h f (by simp)
    have h2 := sumA_bd i k t (fun g hg => h g (List.mem_cons_of_mem _ hg))
    have e : sumA i (f :: t) = (if bitF i f then areaP f.rg else 0) + sumA i t := by
      unfold sumA
      cases h : bitF i f <;> simp [h]
    have e2 : k * ((f :: t).length : Int) = k * (t.length : Int) + k := by
      rw [List.length_cons, Int.natCast_succ, Int.mul_add, Int.mul_one]
    rw [e, e2]
    split <;> omega
theorem cuts_ins {s : Nat} {l : List R4} (h : InS (s : Int) l) : (cutsP l).length ≤ s + 1 := by
  have h1 := lt_len (cutsP l) 0 s (asc_all _).1 (fun e he => by
    have he := ((asc_all _).2.1 e).1 he
    unfold yEdges at he
    obtain ⟨q, hq, he⟩ := List.mem_flatMap.1 he
    have := h q hq
    simp only [List.mem_cons, List.not_mem_nil, or_false] at he
    rcases he with rfl | rfl <;> omega) (by omega)
  omega
theorem rects_total {s k : Nat} : ∀ {F : List Fc}, (∀ f ∈ F, Reg s k f.rg) → (F.flatMap Fc.rg).length ≤ k * F.length
  | [], _ => by simp
  | f :: t, h => by
    have h1 := (h f (by simp)).len
    have h2 := rects_total (F := t) (fun g hg => h g (List.mem_cons_of_mem _ hg))
    rw [List.flatMap_cons, List.length_append, List.length_cons, Nat.mul_succ]
    omega
end Go.Proofs.YtabcadpfhachoaaGreat

namespace Go.Proofs.YtabcadpfhachoaaGreat
open Go.RowKit Go.Shelf
set_option linter.unusedVariables false
set_option linter.unusedSimpArgs false

def regsP (l : List (List R4)) : Int := if 60 < l.length then 1 else if l.all validP then 0 else 7
theorem regs_ok {l : List (List R4)} (h : regsP l = 0) : l.length ≤ 60 ∧ l.all validP = true := by
  unfold regsP at h
  split at h
  · cases h
  · split at h
    · rename_i h2
      exact ⟨by omega, h2⟩
    · cases h

set_option maxHeartbeats 400000 in
theorem regionsFn (w : World) : PredBelow Tryz.prog 64 #[] (fun x : GS w => .agg #[rgC x.1]) (fun x => !validP x.1.1) w := by
  intro W x hb
  obtain ⟨⟨l, v⟩, hx⟩ := x
  refine Calls.mono (show Calls Tryz.prog 64 #[.agg #[.slice v.a l.length v.c]] W fun e w' => e = .returned (.bool (!validP l)) ∧ Below W.heap.size W w' from ?_) ?_
  · have HV := Lib.hid (fun W' (hW : Below W.heap.size W W') => valid_any v.a l.length v.c l W' ((hx.below hb).below hW))
    generalize validP l = x at *
    clear hx
    go_enter Tryz.func64, Tryz.ntmps64
    go_wp2_with (first | (go_at_call 27; refine (HV.out _ (by repeat' (first | with_reducible exact Below.refl _ _ | with_reducible refine below_drewN ?_ _ | with_reducible refine Below.drew ?_ | with_reducible refine Below.alloc ?_ ?_ _ | with_reducible refine Below.setCell ?_ ?_ _ | with_reducible refine Below.trans ?_ (Below.mono (by with_reducible assumption) ?_) | (simp; done) | (simp; omega) | omega))).mono ?_; rintro e w1 ⟨rfl, hb1⟩) | fail)
    go_ret
    exact ⟨rfl, (by repeat' (first | with_reducible exact Below.refl _ _ | with_reducible assumption | with_reducible refine below_drewN ?_ _ | with_reducible refine Below.drew ?_ | with_reducible refine Below.alloc ?_ ?_ _ | with_reducible refine Below.setCell ?_ ?_ _ | with_reducible refine Below.trans ?_ (Below.mono (by with_reducible assumption) ?_) | with_reducible refine below_only ?_ (by with_reducible assumption) ?_ ?_ | (simp; done) | (simp; omega) | omega))⟩
  · rintro e w' ⟨rfl, h⟩
    exact ⟨rfl, hb.trans (h.mono hb.size)⟩

set_option maxHeartbeats 1000000 in
theorem regs_any (A : Option Addr) (n c : Nat) (l : RL) (w : World) (hA : SlG w A n c l) : Calls Tryz.prog 32 #[.slice A n c] w fun e w' => e = .returned (.int .i64 (regsP (rgs l))) ∧ Below w.heap.size w w' := by
  have hlen : (rgs l).length = n := by rw [rgs_len]; exact hA.len
  have eg : ∀ args w, (callFunc 64 args).run Tryz.prog w = .ok (.enter 64 args) w := enters_of Tryz.func64 (by kernel_rfl) rfl
  have Hcf := Lib.hid (containsG_any (fun x => !validP x.1) 64 #[] eg A n c l w hA (regionsFn w))
  have hall : (l.any fun x => !validP x.1) = !(rgs l).all validP := by
    rw [any_not_all]
    simp [rgs, List.all_map]
    rfl
  rw [hall] at Hcf
  have Hres : Hid (regsP (rgs l) = if 60 < n then 1 else if (rgs l).all validP then 0 else 7) := Lib.hid (by unfold regsP; rw [hlen])
  generalize regsP (rgs l) = res at *
  generalize (rgs l).all validP = va at *
  clear hA hlen hall eg
  go_enter Tryz.func32, Tryz.ntmps32
  by_cases h60 : 60 < n
  · have h60' : (60 : Int) < (n : Int) := by omega
    go_wp2
    go_ret
    exact ⟨by rw [Hres.out, if_pos h60]; rfl, Below.refl _ _⟩
  · have h60' : ¬ (60 : Int) < (n : Int) := by omega
    cases va
    · go_wp2_with (first | (go_at_call 25; refine Hcf.out.mono ?_; rintro e w1 ⟨rfl, hb1⟩) | fail)
      go_ret
      exact ⟨by rw [Hres.out, if_neg h60]; rfl, hb1⟩
    · go_wp2_with (first | (go_at_call 25; refine Hcf.out.mono ?_; rintro e w1 ⟨rfl, hb1⟩) | fail)
      go_ret
      exact ⟨by rw [Hres.out, if_neg h60]; rfl, hb1⟩

def coverP (a : List R4) (l : List (List R4)) : Bool × Int := if regsP l = 0 then (if validP a then (decide ((chooseP notB a l.flatten).length = 0), 0) else (false, 7)) else (false, regsP l)
theorem coverFn (w : World) : BoolFn 34 #[] notB w := by
  intro W x y hW
  go_enter Tryz.func34, Tryz.ntmps34
  cases x <;> cases y <;> (go_wp2; go_ret; exact ⟨rfl, Below.refl _ _⟩)

set_option maxHeartbeats 4000000 in
set_option maxRecDepth 100000 in
theorem cover_any (A B : Option Addr) (n c m d : Nat) (a : List R4) (l : RL) (w : World) (hB : SlR w B m d a) (hA : SlG w A n c l) (hN : (rgs l).flatten.length ≤ 750) :
    Calls Tryz.prog 9 #[.agg #[.slice B m d], .slice A n c] w fun e w' => e = .returned (.tuple #[.bool (coverP a (rgs l)).1, .int .i64 (coverP a (rgs l)).2]) ∧ Below w.heap.size w w' := by
  obtain ⟨i0, hi, hz0, hz1, hz2⟩ := info_parts Tryz.infoRect
  have eg : ∀ args w, (callFunc 34 args).run Tryz.prog w = .ok (.enter 34 args) w := enters_of Tryz.func34 (by kernel_rfl) rfl
  have Eg := Lib.hid eg
  have HA := Lib.hid hA
  have HB := Lib.hid hB
  have HN := Lib.hid hN
  have Hlen : Hid ((rgs l).length = n) := Lib.hid (by rw [rgs_len]; exact hA.len)
  have Hrg := Lib.hid (fun W (hW : Below w.heap.size w W) => regs_any A n c l W (hA.below hW))
  have HV := Lib.hid (fun W (hW : Below w.heap.size w W) => valid_any B m d a W (hB.below hW))
  have Hres : Hid (coverP a (rgs l) = if regsP (rgs l) = 0 then (if validP a then (decide ((chooseP notB a (rgs l).flatten).length = 0), 0) else (false, 7)) else (false, regsP (rgs l))) := Lib.hid rfl
  have Hgood := Lib.hid (fun h => (regs_ok (l := rgs l) h).2)
  have H60 := Lib.hid (fun h => (regs_ok (l := rgs l) h).1)
  rw [Hlen.out] at H60
  have Hva := Lib.hid (fun h => valid_parts (l := a) h)
  generalize coverP a (rgs l) = res at *
  generalize regsP (rgs l) = er at *
  generalize validP a = va at *
  clear hA hB eg hN
  go_enter Tryz.func9, Tryz.ntmps9
  by_cases her : er = 0
  · subst her
    have Hgood0 := Lib.hid (Hgood.out rfl)
    have hn60 := H60.out rfl
    cases va
    · go_wp2_with (first
        | (go_at_call 32
           refine (Hrg.out _ (by repeat' (first | with_reducible exact Below.refl _ _ | with_reducible refine below_drewN ?_ _ | with_reducible refine Below.drew ?_ | with_reducible refine Below.alloc ?_ ?_ _ | with_reducible refine Below.setCell ?_ ?_ _ | with_reducible refine Below.trans ?_ (Below.mono (by with_reducible assumption) ?_) | (simp; done) | (simp; omega) | omega))).mono ?_
           rintro e w1 ⟨rfl, hb1⟩
           have hx1 : w1.heap[w.heap.size]? = some (.cells #[.slice B m d] 34 (0, 0)) := (hb1.block _ (by simp)).trans (heap_alloc_new w _)
           have x1 := cell_of_row _ _ 0 _ _ _ hx1
           have Hb1 : Hid (Below w.heap.size w w1) := Lib.hid (show Below w.heap.size w w1 from (by have hbq := hb1; exact (by repeat' (first | with_reducible exact Below.refl _ _ | with_reducible assumption | with_reducible refine below_drewN ?_ _ | with_reducible refine Below.drew ?_ | with_reducible refine Below.alloc ?_ ?_ _ | with_reducible refine Below.setCell ?_ ?_ _ | with_reducible refine Below.trans ?_ (Below.mono (by with_reducible assumption) ?_) | with_reducible refine below_only ?_ (by with_reducible assumption) ?_ ?_ | (simp; done) | (simp; omega) | omega))))
           clear hb1 hx1)
        | (go_at_call 27
           refine (HV.out _ Hb1.out).mono ?_
           rintro e w2 ⟨rfl, hb2⟩)
        | fail)
      go_ret2
      exact ⟨by rw [Hres.out]; rfl, Hb1.out.trans (hb2.mono Hb1.out.size)⟩
    · go_upto_region 8 with (first
        | (go_at_call 32
           refine (Hrg.out _ (by repeat' (first | with_reducible exact Below.refl _ _ | with_reducible refine below_drewN ?_ _ | with_reducible refine Below.drew ?_ | with_reducible refine Below.alloc ?_ ?_ _ | with_reducible refine Below.setCell ?_ ?_ _ | with_reducible refine Below.trans ?_ (Below.mono (by with_reducible assumption) ?_) | (simp; done) | (simp; omega) | omega))).mono ?_
           rintro e w1 ⟨rfl, hb1⟩
           have hx1 : w1.heap[w.heap.size]? = some (.cells #[.slice B m d] 34 (0, 0)) := (hb1.block _ (by simp)).trans (heap_alloc_new w _)
           have x1 := cell_of_row _ _ 0 _ _ _ hx1
           have Hx1 := Lib.hid hx1
           have hs1 : w.heap.size < w1.heap.size := by have := hb1.size; simp at this; omega
           have Hb1 : Hid (Below w.heap.size w w1) := Lib.hid (show Below w.heap.size w w1 from (by have hbq := hb1; exact (by repeat' (first | with_reducible exact Below.refl _ _ | with_reducible assumption | with_reducible refine below_drewN ?_ _ | with_reducible refine Below.drew ?_ | with_reducible refine Below.alloc ?_ ?_ _ | with_reducible refine Below.setCell ?_ ?_ _ | with_reducible refine Below.trans ?_ (Below.mono (by with_reducible assumption) ?_) | with_reducible refine below_only ?_ (by with_reducible assumption) ?_ ?_ | (simp; done) | (simp; omega) | omega))))
           clear hb1 hx1)
        | (go_at_call 27
           refine (HV.out _ Hb1.out).mono ?_
           rintro e w2 ⟨rfl, hb2⟩
           have Hb2 : Hid (Below w.heap.size w w2) := Lib.hid (Hb1.out.trans (hb2.mono Hb1.out.size))
           have Hx2 : Hid (w2.heap[w.heap.size]? = some (.cells #[.slice B m d] 34 (0, 0))) := Lib.hid ((hb2.block _ hs1).trans Hx1.out)
           have hs2 : w.heap.size < w2.heap.size := Nat.lt_of_lt_of_le hs1 hb2.size
           clear hb2)
        | fail)
      clear x1
      go_loopw [7, 20] (fun v iv wr => ∃ k : Nat, iv = .int .i64 (k : Int) ∧ k ≤ n ∧ wr.ownsRow w2.heap.size 42 4 v ((rgs l).take k).flatten.length (rCells ((rgs l).take k).flatten) ∧ Below w2.heap.size w2 wr) (fun _ iv _ => n - (intOf iv).toNat)
      case atStart => exact ⟨0, rfl, by omega, World.ownsRow_nil _ _ _ _, Below.refl _ _⟩
      case round =>
        obtain ⟨k, rfl, hkn, hown, hbr⟩ := hrel
        have Hbr := Lib.hid hbr
        have hsr := hbr.size
        have Hown := Lib.hid hown
        obtain ⟨VA, vc, hv, hS⟩ := SlR.of_own hown
        subst hv
        have HS := Lib.hid hS
        clear hbr hown hS
        by_cases hk : k < n
        · have hk' : (k : Int) < (n : Int) := by omega
          have hkl : k < l.length := by have := HA.out.len; omega
          obtain ⟨b, off, rfl, hb, c0, hsl⟩ := ((HA.out.below Hb2.out).below Hbr.out).at k hkl
          have Hnx : Hid (((rgs l).take (k + 1)).flatten = ((rgs l).take k).flatten ++ l[k].1) := Lib.hid (by
            rw [List.take_succ_eq_append_getElem (by rw [rgs_len]; exact hkl), List.flatten_append]
            simp [rgs])
          have Hle : Hid (((rgs l).take (k + 1)).flatten.length ≤ 750) := Lib.hid (by
            have h1 : ((rgs l).take (k + 1)).flatten.length ≤ (rgs l).flatten.length := by
              conv => rhs; rw [← List.take_append_drop (k + 1) (rgs l)]
              rw [List.flatten_append, List.length_append]
              omega
            have := HN.out
            omega)
          obtain ⟨U, hU⟩ : ∃ U, ((rgs l).take k).flatten = U := ⟨_, rfl⟩
          obtain ⟨U', hU'⟩ : ∃ U, ((rgs l).take (k + 1)).flatten = U := ⟨_, rfl⟩
          obtain ⟨x, hx⟩ : ∃ x, l[k].1 = x := ⟨_, rfl⟩
          obtain ⟨D, hD⟩ : ∃ D, l[k].2.a = D := ⟨_, rfl⟩
          obtain ⟨e, he⟩ : ∃ e, l[k].2.c = e := ⟨_, rfl⟩
          rw [hU] at HS Hown Hnx ⊢
          rw [hU'] at Hnx Hle
          rw [hx] at Hnx
          rw [hx, hD, he] at c0 hsl
          have Hrd := Lib.hid (hsl.lies.reads (size := 4) (by rw [rCells_len]))
          have HU' := Lib.hid hU'
          obtain ⟨un, hun⟩ : ∃ un, U.length = un := ⟨_, rfl⟩
          obtain ⟨q, hq⟩ : ∃ q, x.length = q := ⟨_, rfl⟩
          have hle1 : un + q ≤ 750 := by have := Hle.out; rw [Hnx.out, List.length_append] at this; omega
          rw [hun] at HS Hown ⊢
          rw [hq] at c0 Hrd
          have Hun := Lib.hid hun
          have Hq := Lib.hid hq
          clear hU hU' hx hD he hun hq hsl
          go_wp2_with (first
            | (at_builtin
               refine wpList_append_any _ rfl (.tmp 24) (.tmp 26) _ rfl w2.heap.size 42 i0 _ 4 32 Tryz.underlying32 hi hz0 hz1 hz2 rfl (by omega) _ un (rCells U) rfl (World.ownsRow.alloc Hown.out _) wr.heap.size _ q _ (rCells x) rfl (Hrd.out.below ((Below.refl _ _).alloc (Nat.le_refl _) _)) (rCells_one x) (by simp only [maxLen]; omega) (by omega) (by simp; omega) ?_
               intro v6 w6 hown6 hg6 hat6
               have hob := own_base Hown.out
               obtain ⟨VB, vd, rfl, _, _, _⟩ := own_slice hown6
               have Hown6 := Lib.hid hown6
               have Hb6 : Hid (Below w2.heap.size w2 w6) := Lib.hid ((Hbr.out.alloc hsr _).grown hg6 (by simp; omega) (fun b e => hob b e))
               clear hown6 hg6 hat6 hob)
            | fail)
          go_roundw
          case rel => exact ⟨k + 1, by go_num, by omega, by
            rw [HU'.out, Hnx.out, List.length_append, Hun.out, Hq.out, show rCells (U ++ x) = rCells U ++ rCells x by simp [rCells]]
            exact Hown6.out, Hb6.out⟩
          case measure => simp [intOf]; omega
        · obtain rfl : k = n := by omega
          have htk : (rgs l).take k = rgs l := List.take_of_length_le (by rw [Hlen.out]; exact Nat.le_refl _)
          rw [htk] at HS Hown ⊢
          clear htk
          have Hva0 := Lib.hid (Hva.out trivial)
          have hm120 : m ≤ 120 := by have h1 := Hva0.out.1; have h2 := HB.out.len; omega
          have Hpos : Hid (∀ q ∈ (rgs l).flatten, q.l < q.r) := Lib.hid (fun q hq => by
            obtain ⟨a, ha, hq⟩ := List.mem_flatten.1 hq
            exact ok_pos (valid_parts (List.all_eq_true.1 Hgood0.out a ha)).2.1 q hq)
          have Hch := Lib.hid (choose_any B VA m d (rgs l).flatten.length vc 34 #[] notB a (rgs l).flatten wr ((HB.out.below Hb2.out).below Hbr.out) HS.out (by omega) HN.out (ok_pos Hva0.out.2.1) Hpos.out Eg.out (coverFn wr))
          have x1 := cell_of_row _ _ 0 _ _ _ ((Hbr.out.block _ hs2).trans Hx2.out)
          have Hr : Hid (res = (decide ((chooseP notB a (rgs l).flatten).length = 0), 0)) := Lib.hid (by rw [Hres.out, if_pos trivial, if_pos trivial])
          generalize chooseP notB a (rgs l).flatten = R at *
          generalize (rgs l).flatten.length = un at *
          go_wp2_with (first
            | (go_at_call 33
               refine Hch.out.mono ?_
               rintro e w3 ⟨v3, rfl, hown3, hb3⟩
               obtain ⟨E, ec, rfl, _⟩ := SlR.of_own hown3
               have Hb3 := Lib.hid hb3
               clear hown3 hb3)
            | fail)
          go_ret2
          refine ⟨?_, (Hb2.out.trans (Hbr.out.mono (by omega))).trans (Hb3.out.mono (by omega))⟩
          rw [Hr.out]
          by_cases h0 : R.length = 0
          · simp [h0]
          · have : ((R.length : Int) == 0) = false := by simpa using h0
            simp [h0]
  · go_wp2_with (first
      | (go_at_call 32
         refine (Hrg.out _ (by repeat' (first | with_reducible exact Below.refl _ _ | with_reducible refine below_drewN ?_ _ | with_reducible refine Below.drew ?_ | with_reducible refine Below.alloc ?_ ?_ _ | with_reducible refine Below.setCell ?_ ?_ _ | with_reducible refine Below.trans ?_ (Below.mono (by with_reducible assumption) ?_) | (simp; done) | (simp; omega) | omega))).mono ?_
         rintro e w1 ⟨rfl, hb1⟩
         have Hb1 : Hid (Below w.heap.size w w1) := Lib.hid (show Below w.heap.size w w1 from (by have hbq := hb1; exact (by repeat' (first | with_reducible exact Below.refl _ _ | with_reducible assumption | with_reducible refine below_drewN ?_ _ | with_reducible refine Below.drew ?_ | with_reducible refine Below.alloc ?_ ?_ _ | with_reducible refine Below.setCell ?_ ?_ _ | with_reducible refine Below.trans ?_ (Below.mono (by with_reducible assumption) ?_) | with_reducible refine below_only ?_ (by with_reducible assumption) ?_ ?_ | (simp; done) | (simp; omega) | omega))))
         clear hb1)
      | fail)
    go_ret2
    exact ⟨by rw [Hres.out, if_neg her]; rfl, Hb1.out⟩
end Go.Proofs.YtabcadpfhachoaaGreat

namespace Go.Proofs.YtabcadpfhachoaaGreat
open Go.RowKit Go.Shelf
set_option linter.unusedVariables false
set_option linter.unusedSimpArgs false

/-- What Disjoint tells. -/
def DisjIs (l : List (List R4)) (i k : Int) (b : Bool) (e : Int) : Prop :=
  e = regsP l ∧ ((regsP l ≠ 0 ∧ i = 0 ∧ k = 0 ∧ b = false) ∨ (regsP l = 0 ∧ i = 0 ∧ k = 0 ∧ b = false ∧ ∀ (x y : Nat), x < y → y < l.length → meetsP (l.getD x []) (l.getD y []) = false) ∨
    (regsP l = 0 ∧ ∃ x y : Nat, i = (x : Int) ∧ k = (y : Int) ∧ b = true ∧ x < y ∧ y < l.length ∧ meetsP (l.getD x []) (l.getD y []) = true ∧ (∀ x' y' : Nat, x' < x → x' < y' → y' < l.length → meetsP (l.getD x' []) (l.getD y' []) = false) ∧ ∀ y' : Nat, x < y' → y' < y → meetsP (l.getD x []) (l.getD y' []) = false))

def DisjPost (w : World) (l : List (List R4)) (e : Ending) (w' : World) : Prop := ∃ (i k : Int) (b : Bool) (er : Int), e = .returned (.tuple #[.int .i64 i, .int .i64 k, .bool b, .int .i64 er]) ∧ DisjIs l i k b er ∧ Below w.heap.size w w'
set_option maxHeartbeats 800000 in
set_option maxRecDepth 100000 in
theorem disjoint_any (A : Option Addr) (n c : Nat) (l : RL) (w : World) (hA : SlG w A n c l) :
    Calls Tryz.prog 10 #[.slice A n c] w (DisjPost w (rgs l)) := by
  have HA := Lib.hid hA
  have Hlen : Hid ((rgs l).length = n) := Lib.hid (by rw [rgs_len]; exact hA.len)
  have Hrg := Lib.hid (regs_any A n c l w hA)
  have Hdi : Hid (∀ i k b e, DisjIs (rgs l) i k b e ↔ (e = regsP (rgs l) ∧ ((regsP (rgs l) ≠ 0 ∧ i = 0 ∧ k = 0 ∧ b = false) ∨ (regsP (rgs l) = 0 ∧ i = 0 ∧ k = 0 ∧ b = false ∧ ∀ (x y : Nat), x < y → y < n → meetsP ((rgs l).getD x []) ((rgs l).getD y []) = false) ∨
    (regsP (rgs l) = 0 ∧ ∃ x y : Nat, i = (x : Int) ∧ k = (y : Int) ∧ b = true ∧ x < y ∧ y < n ∧ meetsP ((rgs l).getD x []) ((rgs l).getD y []) = true ∧ (∀ x' y' : Nat, x' < x → x' < y' → y' < n → meetsP ((rgs l).getD x' []) ((rgs l).getD y' []) = false) ∧ ∀ y' : Nat, x < y' → y' < y → meetsP ((rgs l).getD x []) ((rgs l).getD y' []) = false)))) := Lib.hid (fun i k b e => by unfold DisjIs; rw [Hlen.out])
  have H60 := Lib.hid (fun h => (regs_ok (l := rgs l) h).1)
  rw [Hlen.out] at H60
  generalize regsP (rgs l) = er at *
  clear hA
  go_enter Tryz.func10, Tryz.ntmps10
  by_cases her : er = 0
  · subst her
    have hn60 := H60.out rfl
    go_upto_region 5 with (first
      | (go_at_call 32
         refine Hrg.out.mono ?_
         rintro e w1 ⟨rfl, hb1⟩
         have Hb1 := Lib.hid hb1
         have hs1 := hb1.size
         clear hb1)
      | fail)
    clear Hrg H60
    go_loopw [17] (fun iv wr => ∃ x : Nat, iv = .int .i64 (x : Int) ∧ x ≤ n ∧ Hid (∀ x' y' : Nat, x' < x → x' < y' → y' < n → meetsP ((rgs l).getD x' []) ((rgs l).getD y' []) = false) ∧ Below w.heap.size w wr) (fun iv _ => n - (intOf iv).toNat)
    case atStart => exact ⟨0, rfl, by omega, Lib.hid (fun _ _ h => by omega), Hb1.out⟩
    case round =>
      obtain ⟨x, rfl, hxn, Hno, hbx⟩ := hrel
      have Hbx := Lib.hid hbx
      have hsx := hbx.size
      clear hbx
      obtain ⟨wo, rfl⟩ : ∃ wo : World, wo = wr := ⟨_, rfl⟩
      by_cases hxl : x < n
      · have hxl' : (x : Int) < (n : Int) := by omega
        have hxL : x < l.length := by have := HA.out.len; omega
        obtain ⟨b, off, rfl, hb, c0, hsl⟩ := (HA.out.below Hbx.out).at x hxL
        have hgx : (rgs l).getD x [] = l[x].1 := by simp [rgs, List.getD, List.getElem?_eq_getElem hxL]
        have Hgx := Lib.hid hgx
        obtain ⟨a, ha⟩ : ∃ a, l[x].1 = a := ⟨_, rfl⟩
        obtain ⟨D, hD⟩ : ∃ D, l[x].2.a = D := ⟨_, rfl⟩
        obtain ⟨d, hd⟩ : ∃ d, l[x].2.c = d := ⟨_, rfl⟩
        rw [ha, hD, hd] at c0 hsl
        rw [ha] at Hgx
        obtain ⟨q, hq⟩ : ∃ q, a.length = q := ⟨_, rfl⟩
        rw [hq] at c0 hsl
        have Hsl := Lib.hid hsl
        clear hgx ha hD hd hq hsl
        have ex : IntKind.i64.wrap ((x : Int) + 1) = (x : Int) + 1 := IntWalk.i64_in _ (by omega)
        have ex' : wrap64 ((x : Int) + 1) = (x : Int) + 1 := IntWalk.wrap64_in _ (by omega)
        go_upto_region 8 with fail
        have Hrow : Hid ((wo.alloc (.cells #[.slice D q d] 34)).heap[wo.heap.size]? = some (.cells #[.slice D q d] 34 (0, 0))) := Lib.hid (heap_alloc_new wo _)
        have Hb8 : Hid (Below w.heap.size w (wo.alloc (.cells #[.slice D q d] 34))) := Lib.hid (Hbx.out.alloc hsx _)
        have Hs8 : Hid (SlR (wo.alloc (.cells #[.slice D q d] 34)) D q d a) := Lib.hid (Hsl.out.alloc _)
        have hs8 : wo.heap.size < (wo.alloc (.cells #[.slice D q d] 34)).heap.size := by simp
        obtain ⟨P0, hP0⟩ : ∃ P, wo.heap.size = P := ⟨_, rfl⟩
        rw [hP0] at Hrow hs8 ⊢
        generalize wo.alloc (.cells #[.slice D q d] 34) = w8 at *
        have hsw8 := Hb8.out.size
        clear hP0
        go_loopw [9] (fun kv wr => ∃ y : Nat, kv = .int .i64 (y : Int) ∧ x < y ∧ y ≤ n ∧ Hid (∀ y' : Nat, x < y' → y' < y → meetsP ((rgs l).getD x []) ((rgs l).getD y' []) = false) ∧ Below w8.heap.size w8 wr) (fun kv _ => n - (intOf kv).toNat)
        case atStart => exact ⟨x + 1, by go_num, by omega, by omega, Lib.hid (fun _ h1 h2 => by omega), Below.refl _ _⟩
        case round =>
          obtain ⟨y, rfl, hxy, hyn, Hny, hby⟩ := hrel
          have Hby := Lib.hid hby
          have hsy := hby.size
          clear hby
          by_cases hyl : y < n
          · have hyl' : (y : Int) < (n : Int) := by omega
            have hyL : y < l.length := by have := HA.out.len; omega
            obtain ⟨b2, off2, e2, hb2, d0, hsl2⟩ := ((HA.out.below Hb8.out).below Hby.out).at y hyL
            injection e2 with e2
            injection e2 with e2 e3 _
            subst e2 e3
            have hgy : (rgs l).getD y [] = l[y].1 := by simp [rgs, List.getD, List.getElem?_eq_getElem hyL]
            have Hgy := Lib.hid hgy
            obtain ⟨a2, ha2⟩ : ∃ a, l[y].1 = a := ⟨_, rfl⟩
            obtain ⟨D2, hD2⟩ : ∃ D, l[y].2.a = D := ⟨_, rfl⟩
            obtain ⟨f2, hf2⟩ : ∃ d, l[y].2.c = d := ⟨_, rfl⟩
            rw [ha2, hD2, hf2] at d0 hsl2
            rw [ha2] at Hgy
            obtain ⟨q2, hq2⟩ : ∃ q, a2.length = q := ⟨_, rfl⟩
            rw [hq2] at d0 hsl2
            have Hm := Lib.hid (fun W (hW : Below wr.heap.size wr W) => meets_any D D2 q d q2 f2 a a2 W ((Hs8.out.below Hby.out).below hW) (hsl2.below hW))
            have Hmv : Hid (meetsP ((rgs l).getD x []) ((rgs l).getD y []) = meetsP a a2) := Lib.hid (by rw [Hgx.out, Hgy.out])
            clear hgy ha2 hD2 hf2 hq2 hsl2
            have x0 := cell_of_row _ _ 0 _ _ _ ((Hby.out.block _ hs8).trans Hrow.out)
            have hP0r : P0 < wr.heap.size := by omega
            have hy0 : 0 ≤ (y : Int) := by omega
            generalize meetsP a a2 = mt at *
            go_upto_region 10 with fail
            refine wp_region_below wr.heap.size (Nat.le_refl _) (by kernel_rfl) (by kernel_rfl) ?_
            intro I _ F hFc hFb hFs
            have g0 := fun i => (hFc i P0 0 hP0r).trans x0
            have g1 := fun i => (hFc i b (off + y) hb2).trans d0
            repeat (go_big_quiet_step ((first
              | (go_at_call 35; exact class_call hFb hFs (Nat.le_refl _) (Hm.out _ (hFb _))))))
            refine wpQuiet_nil ?_
            rintro _ ⟨iq, rfl⟩
            generalize hw4 : F iq = w4
            have hb4 : Below wr.heap.size wr w4 := by rw [← hw4]; exact hFb iq
            have Hb4 := Lib.hid hb4
            clear hw4 hFc hFb hFs g0 g1 hb4 x0 d0
            clear ex ex'
            cases mt
            · clear Hm
              go_wp2
              go_roundw
              case rel => exact ⟨y + 1, by go_num, by omega, by omega, Lib.hid (fun y' h1 h2 => by
                rcases Nat.lt_or_ge y' y with h | h
                · exact Hny.out y' h1 h
                · obtain rfl : y' = y := by omega
                  exact Hmv.out), Hby.out.trans (Hb4.out.mono hsy)⟩
              case measure => simp [intOf]; omega
            · go_wp2
              refine bodyPost_ret (v := .tuple #[.int .i64 (x : Int), .int .i64 (y : Int), .bool true, .int .i64 0]) (by simp [results, Tryz.results10, go_sem, *]) rfl ?_
              exact ⟨_, _, _, _, rfl, (Hdi.out _ _ _ _).2 ⟨rfl, .inr (.inr ⟨by first | rfl | trivial, x, y, rfl, rfl, rfl, hxy, hyl, Hmv.out, Hno.out, Hny.out⟩)⟩, (Hb8.out.trans (Hby.out.mono hsw8)).trans (Hb4.out.mono (by omega))⟩
          · obtain rfl : y = n := by omega
            go_wp2
            go_roundw
            case rel => exact ⟨x + 1, by go_num, by omega, Lib.hid (fun x' y' h1 h2 h3 => by
              rcases Nat.lt_or_ge x' x with h | h
              · exact Hno.out x' y' h h2 h3
              · obtain rfl : x' = x := by omega
                exact Hny.out y' h2 h3), Hb8.out.trans (Hby.out.mono hsw8)⟩
            case measure => simp [intOf]; omega
      · obtain rfl : x = n := by omega
        go_wp2
        refine bodyPost_ret (v := .tuple #[.int .i64 0, .int .i64 0, .bool false, .int .i64 0]) (by simp [results, Tryz.results10, go_sem, *]) rfl ?_
        exact ⟨_, _, _, _, rfl, (Hdi.out _ _ _ _).2 ⟨rfl, .inr (.inl ⟨by first | rfl | trivial, rfl, rfl, rfl, fun a b h1 h2 => Hno.out a b (by omega) h1 h2⟩)⟩, Hbx.out⟩
  · go_wp2_with (first
      | (go_at_call 32
         refine Hrg.out.mono ?_
         rintro e w1 ⟨rfl, hb1⟩
         have Hb1 := Lib.hid hb1
         clear hb1)
      | fail)
    refine bodyPost_ret (v := .tuple #[.int .i64 0, .int .i64 0, .bool false, .int .i64 er]) (by simp [results, Tryz.results10, go_sem, *]) rfl ?_
    exact ⟨_, _, _, _, rfl, (Hdi.out _ _ _ _).2 ⟨rfl, .inl ⟨her, rfl, rfl, rfl⟩⟩, Hb1.out⟩
end Go.Proofs.YtabcadpfhachoaaGreat

namespace Go.Proofs.YtabcadpfhachoaaGreat
open Go.RowKit
set_option linter.unusedVariables false
set_option linter.unusedSimpArgs false

theorem regs_zero {s k : Nat} {m : List (List R4)} (hs : s ≤ 10) (hk : k ≤ 120) (hm : m.length ≤ 60) (hr : ∀ a ∈ m, Reg s k a) : regsP m = 0 := by
  unfold regsP
  rw [if_neg (by omega), if_pos (List.all_eq_true.2 fun a ha => (hr a ha).valid (by omega) hk)]
theorem cover_face {s k : Nat} {m : List (List R4)} {F : List Fc} (hs : s ≤ 10) (hk : k ≤ 120) (hm : m.length ≤ 7) (hr : ∀ a ∈ m, Reg s k a) (hF : FacesOk s m F) : ∀ f ∈ F, coverP f.rg m = (true, 0) := by
  intro f hf
  have hss : s * s ≤ 120 := by have : s * s ≤ 10 * 10 := Nat.mul_le_mul hs hs; omega
  have hreg := hF.reg f hf
  have hnil : chooseP notB f.rg m.flatten = [] := (choose_nil rfl hreg.ins (flat_ins hr)).2 fun x y => by
    cases h : inL f.rg x y
    · rfl
    · have h1 := hF.at' f hf x y
      rw [h] at h1
      have h2 := of_decide_eq_true h1.symm
      have h3 := (hF.pos f hf).1
      have h4 : inL m.flatten x y = true := (inL_flatten m x y).2 ((setAt_pos m x y).1 (by omega))
      rw [h4]
      rfl
  unfold coverP
  rw [if_pos (regs_zero hs hk (by omega) hr), if_pos (hreg.valid (by omega) hss), hnil]
  rfl
theorem far_valid : validP [(⟨50, 0, 51, 1⟩ : R4)] = true := by
  unfold validP
  rw [canonP_comb _ (by decide)]
  decide
theorem nil_valid : validP [] = true := by
  unfold validP
  rw [canonP_comb _ (by decide)]
  decide
theorem cover_far {s k : Nat} {m : List (List R4)} (hs : s ≤ 10) (hk : k ≤ 120) (hm : m.length ≤ 60) (hr : ∀ a ∈ m, Reg s k a) : coverP [⟨50, 0, 51, 1⟩] m = (false, 0) := by
  have hin := flat_ins hr
  have hin51 : InS 51 m.flatten := fun q hq => by have := hin q hq; omega
  have hfar : InS 51 [(⟨50, 0, 51, 1⟩ : R4)] := fun q hq => by rw [List.mem_singleton] at hq; subst hq; decide
  have hne : chooseP notB [⟨50, 0, 51, 1⟩] m.flatten ≠ [] := fun h => by
    have h1 := (choose_nil rfl hfar hin51).1 h 50 0
    have h2 : inL m.flatten 50 0 = false := by
      cases e : inL m.flatten 50 0
      · rfl
      · have := hin.in 50 0 e; omega
    rw [h2] at h1
    simp [notB, inL, R4.has] at h1
  unfold coverP
  rw [if_pos (regs_zero hs hk hm hr), if_pos far_valid]
  congr 1
  simp [List.length_eq_zero_iff, hne]
theorem cover_nil {s k : Nat} {m : List (List R4)} (hs : s ≤ 10) (hk : k ≤ 120) (hm : m.length ≤ 60) (hr : ∀ a ∈ m, Reg s k a) : coverP [] m = (true, 0) := by
  have hnil : chooseP notB [] m.flatten = [] := (choose_nil rfl (fun q hq => by cases hq) (flat_ins hr)).2 fun x y => rfl
  unfold coverP
  rw [if_pos (regs_zero hs hk hm hr), if_pos nil_valid, hnil]
  rfl
def oneF (f : Fc) : Bool := decide (bits BinOp.and IntKind.i64 f.set (f.set - 1) = 0)
theorem one_bitsB : ((List.range 16).all fun z => decide (z = 0) || (decide (z &&& (z - 1) = 0) == ((List.range 4).all fun i => (List.range 4).all fun k => !(decide (i < k) && (z.testBit i && z.testBit k))))) = true := by decide
theorem one_bits (z : Nat) (hz : z < 16) (hp : 0 < z) : (z &&& (z - 1) = 0) ↔ ∀ i, i < 4 → ∀ k, k < 4 → i < k → ¬ (z.testBit i = true ∧ z.testBit k = true) := by
  have h := List.all_eq_true.1 one_bitsB z (List.mem_range.2 hz)
  rw [decide_eq_false (show ¬ z = 0 by omega), Bool.false_or, beq_iff_eq] at h
  rw [← decide_eq_true_iff (p := z &&& (z - 1) = 0), h, List.all_eq_true]
  constructor
  · rintro h i hi k hk hik ⟨h1, h2⟩
    have := List.all_eq_true.1 (h i (List.mem_range.2 hi)) k (List.mem_range.2 hk)
    rw [h1, h2, decide_eq_true hik] at this
    cases this
  · intro h i hi
    refine List.all_eq_true.2 fun k hk => ?_
    have := h i (List.mem_range.1 hi) k (List.mem_range.1 hk)
    by_cases hik : i < k
    · have := this hik
      rw [decide_eq_true hik]
      cases e1 : z.testBit i <;> cases e2 : z.testBit k <;> simp [e1, e2] at this ⊢
    · simp [hik]
theorem oneF_iff {f : Fc} (h : 0 < f.set ∧ f.set < 16) : oneF f = true ↔ ∀ i, i < 4 → ∀ k, k < 4 → i < k → ¬ (f.set.toNat.testBit i = true ∧ f.set.toNat.testBit k = true) := by
  obtain ⟨z, hz⟩ := Int.eq_ofNat_of_zero_le (show 0 ≤ f.set by omega)
  unfold oneF
  rw [hz, Int.toNat_natCast, decide_eq_true_iff, ← one_bits z (by omega) (by omega), show (z : Int) - 1 = ((z - 1 : Nat) : Int) by omega, and_i64n z (z - 1) (by omega) (by omega)]
  omega
theorem meets_iff {s k : Nat} {a b : List R4} (hs : s ≤ 10) (hk : k ≤ 120) (ha : Reg s k a) (hb : Reg s k b) : meetsP a b = true ↔ ∃ x y, inL a x y = true ∧ inL b x y = true := by
  unfold meetsP
  rw [ha.valid (by omega) hk, hb.valid (by omega) hk, Bool.true_and, Bool.true_and, over_some ha.ins hb.ins]
  simp only [Bool.and_eq_true]
/-- Regions are disjoint exactly if all faces have one bit. -/
theorem disj_single {s k : Nat} {m : List (List R4)} {F : List Fc} (hs : s ≤ 10) (hk : k ≤ 120) (hm : m.length ≤ 4) (hr : ∀ a ∈ m, Reg s k a) (hF : FacesOk s m F) {i j : Int} {b : Bool} {e : Int} (hd : DisjIs m i j b e) : e = 0 ∧ b = !F.all oneF := by
  have h0 := regs_zero hs hk (by omega) hr
  have hset : ∀ f ∈ F, 0 < f.set ∧ f.set < 16 := fun f hf => by
    have h1 := hF.pos f hf
    have h2 : (2 : Int) ^ m.length ≤ 16 := by
      have h : 2 ^ m.length ≤ 2 ^ 4 := Nat.pow_le_pow_right (by omega) hm
      have := Int.ofNat_le.2 h
      simpa using this
    omega
  have hg : ∀ x, x < m.length → m.getD x [] = m[x]! ∧ Reg s k (m.getD x []) := fun x hx => by
    have : m.getD x [] = m[x] := by simp [List.getD, List.getElem?_eq_getElem hx]
    rw [this]
    exact ⟨by simp [hx], hr _ (List.getElem_mem hx)⟩
  have hbit : ∀ x y i, i < m.length → ((setAt m x y).testBit i = inL (m.getD i []) x y) := fun x y i hi => by
    rw [bit_in x y i hi]
    simp [List.getD, List.getElem?_eq_getElem hi]
  obtain ⟨he, hd⟩ := hd
  refine ⟨by rw [he, h0], ?_⟩
  rcases hd with ⟨h, _⟩ | ⟨_, _, _, hb, hno⟩ | ⟨_, x, y, _, _, hb, hxy, hyl, hmt, _⟩
  · exact absurd h0 h
  · rw [hb]
    have : F.all oneF = true := List.all_eq_true.2 fun f hf => by
      rw [oneF_iff (hset f hf)]
      rintro a ha c hc hac ⟨h1, h2⟩
      obtain ⟨px, py, hp⟩ := hF.ne f hf
      rw [← hp, Int.toNat_natCast] at h1 h2
      have hlt : ∀ i, (setAt m px py).testBit i = true → i < m.length := fun i hi => by
        rcases Nat.lt_or_ge i m.length with h | h
        · exact h
        · have := Nat.testBit_lt_two_pow (Nat.lt_of_lt_of_le (setAt_lt m px py) (Nat.pow_le_pow_right (by omega) h))
          rw [this] at hi
          cases hi
      have hal := hlt a h1
      have hcl := hlt c h2
      have := hno a c hac hcl
      rw [(meets_iff hs hk (hg a hal).2 (hg c hcl).2).2 ⟨px, py, by rw [← hbit px py a hal]; exact h1, by rw [← hbit px py c hcl]; exact h2⟩] at this
      cases this
    rw [this]
    rfl
  · rw [hb]
    have hxl : x < m.length := by omega
    obtain ⟨px, py, h1, h2⟩ := (meets_iff hs hk (hg x hxl).2 (hg y hyl).2).1 hmt
    rw [← hbit px py x hxl] at h1
    rw [← hbit px py y hyl] at h2
    have hz : setAt m px py ≠ 0 := fun e => by rw [e] at h1; simp at h1
    obtain ⟨f, hf, e⟩ := hF.all px py hz
    have : F.all oneF = false := by
      rw [Bool.eq_false_iff]
      intro h
      have := (oneF_iff (hset f hf)).1 (List.all_eq_true.1 h f hf) x (by omega) y (by omega) hxy
      rw [e, Int.toNat_natCast] at this
      exact this ⟨h1, h2⟩
    rw [this]
    rfl
end Go.Proofs.YtabcadpfhachoaaGreat

namespace Go.Proofs.YtabcadpfhachoaaGreat
open Go.RowKit
set_option linter.unusedVariables false
set_option linter.unusedSimpArgs false

theorem disj_one {l : List (List R4)} {i k i' k' : Int} {b b' : Bool} {e e' : Int} (h : DisjIs l i k b e) (h' : DisjIs l i' k' b' e') : i = i' ∧ k = k' ∧ b = b' ∧ e = e' := by
  obtain ⟨he, h⟩ := h
  obtain ⟨he', h'⟩ := h'
  have hee : e = e' := by rw [he, he']
  rcases h with ⟨h0, h1, h2, h3⟩ | ⟨h0, h1, h2, h3, hno⟩ | ⟨h0, x, y, h1, h2, h3, hxy, hyl, hm, hb1, hb2⟩
  · rcases h' with ⟨g0, g1, g2, g3⟩ | ⟨g0, g1, g2, g3, gno⟩ | ⟨g0, x', y', g1, g2, g3, _⟩
    · exact ⟨by rw [h1, g1], by rw [h2, g2], by rw [h3, g3], hee⟩
    · exact absurd g0 h0
    · exact absurd g0 h0
  · rcases h' with ⟨g0, g1, g2, g3⟩ | ⟨g0, g1, g2, g3, gno⟩ | ⟨g0, x', y', g1, g2, g3, gxy, gyl, gm, gb1, gb2⟩
    · exact absurd h0 g0
    · exact ⟨by rw [h1, g1], by rw [h2, g2], by rw [h3, g3], hee⟩
    · have := hno x' y' gxy gyl
      rw [gm] at this
      cases this
  · rcases h' with ⟨g0, g1, g2, g3⟩ | ⟨g0, g1, g2, g3, gno⟩ | ⟨g0, x', y', g1, g2, g3, gxy, gyl, gm, gb1, gb2⟩
    · exact absurd h0 g0
    · have := gno x y hxy hyl
      rw [hm] at this
      cases this
    · have hx : x = x' := by
        rcases Nat.lt_trichotomy x x' with h | h | h
        · have := gb1 x y h hxy hyl
          rw [hm] at this
          cases this
        · exact h
        · have := hb1 x' y' h gxy gyl
          rw [gm] at this
          cases this
      subst hx
      have hy : y = y' := by
        rcases Nat.lt_trichotomy y y' with h | h | h
        · have := gb2 y hxy h
          rw [hm] at this
          cases this
        · exact h
        · have := hb2 y' gxy h
          rw [gm] at this
          cases this
      subst hy
      exact ⟨by rw [h1, g1], by rw [h2, g2], by rw [h3, g3], hee⟩

theorem SegF.starts {V : Type} {f : Int → Option V} {Y : List Int} (hY : ∀ y, f (y - 1) ≠ f y → y ∈ Y) : ∀ {l : List (Sg V)} {c : Int}, SegF f c l → (f (c - 1) ≠ f c ∨ f c = none) → ∃ E : List Int, E.Pairwise (· < ·) ∧ E.length = l.length ∧ ∀ e ∈ E, e ∈ Y ∧ c ≤ e
  | [], c, h, h0 => ⟨[], List.Pairwise.nil, rfl, fun e he => by cases he⟩
  | s :: t, c, h, h0 => by
    obtain ⟨h1, h2, h3, h4, h5, h6⟩ := h
    have hs := h4 s.1 (Int.le_refl _) h2
    have hp : f (s.1 - 1) ≠ f s.1 := by
      by_cases hc : s.1 = c
      · rcases h0 with h0 | h0
        · rw [hc]; exact h0
        · rw [hc, h0] at hs; cases hs
      · rw [h3 (s.1 - 1) (by omega) (by omega), hs]
        exact fun e => by cases e
    have he : f (s.2.1 - 1) ≠ f s.2.1 := by
      rw [h4 (s.2.1 - 1) (by omega) (by omega)]
      exact fun e => h5 e.symm
    obtain ⟨E, e1, e2, e3⟩ := SegF.starts hY h6 (.inl he)
    refine ⟨s.1 :: E, ?_, by simp [e2], fun e hm => ?_⟩
    · rw [List.pairwise_cons]
      exact ⟨fun e hm => by have := (e3 e hm).2; omega, e1⟩
    · rcases List.mem_cons.1 hm with rfl | hm
      · exact ⟨hY _ hp, h1⟩
      · exact ⟨(e3 e hm).1, by have := (e3 e hm).2; omega⟩
theorem segs_starts {V : Type} {f : Int → Option V} {Y : List Int} {l : List (Sg V)} (h : Segs f l) (hY : ∀ y, f (y - 1) ≠ f y → y ∈ Y) : l.length ≤ Y.length := by
  obtain ⟨c, h0, h1⟩ := h
  by_cases hc : f c = none
  · obtain ⟨E, e1, e2, e3⟩ := SegF.starts hY h1 (.inr hc)
    have := more_law.sub_lenO (s := 0) E Y e1 fun e he => (e3 e he).1
    omega
  · obtain ⟨E, e1, e2, e3⟩ := SegF.starts hY h1 (.inl (by rw [h0 (c - 1) (by omega)]; exact fun e => hc e.symm))
    have := more_law.sub_lenO (s := 0) E Y e1 fun e he => (e3 e he).1
    omega
/-- Where a row of squares may change. -/
def Cut (X : List Int) (p : Int → Bool) : Prop := ∀ x, p (x - 1) ≠ p x → x ∈ X
theorem Cut.mono {X Y : List Int} {p : Int → Bool} (h : Cut X p) (hs : ∀ x ∈ X, x ∈ Y) : Cut Y p := fun x hx => hs x (h x hx)
theorem Cut.how {X : List Int} {p q : Int → Bool} (how : Bool → Bool → Bool) (hp : Cut X p) (hq : Cut X q) : Cut X (fun x => how (p x) (q x)) := by
  intro x hx
  by_cases h1 : p (x - 1) = p x
  · by_cases h2 : q (x - 1) = q x
    · exact absurd (by dsimp only; rw [h1, h2]) hx
    · exact hq x h2
  · exact hp x h1
theorem cut_none (X : List Int) : Cut X (fun _ => false) := fun x hx => absurd rfl hx
theorem cut_has (q : R4) (y : Int) : Cut [q.l, q.r] (fun x => q.has x y) := by
  intro x hx
  by_cases h1 : x = q.l
  · simp [h1]
  by_cases h2 : x = q.r
  · simp [h2]
  exfalso
  apply hx
  have e1 : decide (q.l ≤ x - 1) = decide (q.l ≤ x) := decide_eq_decide.2 (by omega)
  have e2 : decide (x - 1 < q.r) = decide (x < q.r) := decide_eq_decide.2 (by omega)
  unfold R4.has
  dsimp only
  rw [e1, e2]
theorem cut_inL (y : Int) : ∀ l : List R4, Cut (xEdges l) (fun x => inL l x y)
  | [] => cut_none _
  | q :: t => by
    have e : (fun x => inL (q :: t) x y) = fun x => q.has x y || inL t x y := by funext x; simp [inL]
    rw [e]
    have e2 : xEdges (q :: t) = [q.l, q.r] ++ xEdges t := by simp [xEdges]
    rw [e2]
    exact Cut.how (· || ·) ((cut_has q y).mono fun x hx => List.mem_append_left _ hx) ((cut_inL y t).mono fun x hx => List.mem_append_right _ hx)
theorem SegF.ends {p : Int → Bool} {X : List Int} (hX : Cut X p) : ∀ {l : List (Sg Unit)} {c : Int}, SegF (fun x => opt (p x)) c l → (p (c - 1) = false ∨ p c = false) →
    ∃ E : List Int, E.Pairwise (· < ·) ∧ E.length = 2 * l.length ∧ ∀ e ∈ E, e ∈ X ∧ c ≤ e ∧ (p c = false → c < e)
  | [], c, h, h0 => ⟨[], List.Pairwise.nil, rfl, fun e he => by cases he⟩
  | s :: t, c, h, h0 => by
    obtain ⟨h1, h2, h3, h4, h5, h6⟩ := h
    have hs : p s.1 = true := (opt_some _).1 (h4 s.1 (Int.le_refl _) h2)
    have hp : p (s.1 - 1) = false := by
      by_cases hc : s.1 = c
      · rcases h0 with h0 | h0
        · rw [hc]; exact h0
        · rw [hc, h0] at hs; cases hs
      · exact (opt_none _).1 (h3 (s.1 - 1) (by omega) (by omega))
    have he : p (s.2.1 - 1) = true := (opt_some _).1 (h4 (s.2.1 - 1) (by omega) (by omega))
    have hn : p s.2.1 = false := (opt_ne _ _).1 h5
    obtain ⟨E, e1, e2, e3⟩ := SegF.ends hX h6 (.inr hn)
    refine ⟨s.1 :: s.2.1 :: E, ?_, by simp; omega, ?_⟩
    · rw [List.pairwise_cons, List.pairwise_cons]
      refine ⟨fun e hm => ?_, fun e hm => (e3 e hm).2.2 hn, e1⟩
      rcases List.mem_cons.1 hm with rfl | hm
      · exact h2
      · have := (e3 e hm).2.1; omega
    · intro e hm
      rcases List.mem_cons.1 hm with rfl | hm
      · refine ⟨hX _ (by rw [hp, hs]; simp), h1, fun h => ?_⟩
        rcases Int.lt_or_eq_of_le h1 with h7 | h7
        · exact h7
        · rw [h7, hs] at h; cases h
      · rcases List.mem_cons.1 hm with rfl | hm
        · exact ⟨hX _ (by rw [he, hn]; simp), by omega, fun _ => by omega⟩
        · have := (e3 e hm).2.1
          exact ⟨(e3 e hm).1, by omega, fun _ => by omega⟩
theorem sub_len : ∀ (E X : List Int), E.Pairwise (· < ·) → (∀ e ∈ E, e ∈ X) → E.length ≤ X.length
  | [], X, _, _ => by simp
  | e :: E, X, hp, hs => by
    obtain ⟨h1, h2⟩ := List.pairwise_cons.1 hp
    have he := hs e (by simp)
    have := sub_len E (X.erase e) h2 (fun k hk => (List.mem_erase_of_ne (by have := h1 k hk; omega)).2 (hs k (by simp [hk])))
    rw [List.length_erase_of_mem he] at this
    have := List.length_pos_of_mem he
    simp; omega
theorem segs_ends {p : Int → Bool} {X : List Int} {l : List (Sg Unit)} (h : Segs (fun x => opt (p x)) l) (hX : Cut X p) : 2 * l.length ≤ X.length := by
  obtain ⟨c, h0, h1⟩ := h
  obtain ⟨E, e1, e2, e3⟩ := SegF.ends hX h1 (.inl ((opt_none _).1 (h0 (c - 1) (by omega))))
  have := sub_len E X e1 fun e he => (e3 e he).1
  omega
theorem SegF.count {V : Type} {f : Int → Option V} {e : Int} (he : ∀ x v, f x = some v → x < e) : ∀ {l : List (Sg V)} {c : Int}, SegF f c l → c ≤ e → (l.length : Int) ≤ e - c
  | [], c, h, hc => by simp; omega
  | s :: t, c, h, hc => by
    obtain ⟨h1, h2, h3, h4, h5, h6⟩ := h
    have h7 := he (s.2.1 - 1) s.2.2 (h4 (s.2.1 - 1) (by omega) (by omega))
    have := SegF.count he h6 (by omega)
    simp; omega
theorem cut_hasY (q : R4) (x : Int) : Cut [q.b, q.t] (fun y => q.has x y) := by
  intro y hy
  by_cases h1 : y = q.b
  · simp [h1]
  by_cases h2 : y = q.t
  · simp [h2]
  exfalso
  apply hy
  have e1 : decide (q.b ≤ y - 1) = decide (q.b ≤ y) := decide_eq_decide.2 (by omega)
  have e2 : decide (y - 1 < q.t) = decide (y < q.t) := decide_eq_decide.2 (by omega)
  unfold R4.has
  dsimp only
  rw [e1, e2]
theorem cut_inLY (x : Int) : ∀ l : List R4, Cut (yEdges l) (fun y => inL l x y)
  | [] => cut_none _
  | q :: t => by
    have e : (fun y => inL (q :: t) x y) = fun y => q.has x y || inL t x y := by funext y; simp [inL]
    rw [e]
    have e2 : yEdges (q :: t) = [q.b, q.t] ++ yEdges t := by simp [yEdges]
    rw [e2]
    exact Cut.how (· || ·) ((cut_hasY q x).mono fun x hx => List.mem_append_left _ hx) ((cut_inLY x t).mono fun x hx => List.mem_append_right _ hx)
/-- A canonical list of squares that change at the cuts X and Y alone. -/
theorem canon_cuts {P : Int → Int → Bool} {R : List R4} (h : Canon P R) {X Y : List Int} (hX : ∀ y, Cut X (fun x => P x y)) (hY : ∀ x, Cut Y (fun y => P x y)) : R.length ≤ Y.length * (X.length / 2) := by
  obtain ⟨row, bs, h1, h2, rfl⟩ := h
  have hr : ∀ y, (row y).length ≤ X.length / 2 := fun y => by have := segs_ends (h1 y) (hX y); omega
  have hb : bs.length ≤ Y.length := segs_starts h2 fun y hne => by
    apply Classical.byContradiction
    intro hn
    apply hne
    have this' : (fun x => opt (P x (y - 1))) = fun x => opt (P x y) := by
      funext x
      congr 1
      apply Classical.byContradiction
      intro hd
      exact hn (hY x y hd)
    have e : row (y - 1) = row y := Segs.uniq (f := fun x => opt (P x y)) (by have := h1 (y - 1); rw [this'] at this; exact this) (h1 y)
    rw [e]
  have hf := flat_len (X.length / 2) bs (fun s hs => by
    have := (h2.mem s.1 s.2.2).2 ⟨s, hs, Int.le_refl _, h2.pos s hs, rfl⟩
    rw [← (nz_some this).1]
    exact hr _)
  exact Nat.le_trans hf (Nat.mul_le_mul_right _ hb)
end Go.Proofs.YtabcadpfhachoaaGreat

namespace Go.Proofs.YtabcadpfhachoaaGreat
open Go.RowKit
set_option linter.unusedVariables false
set_option linter.unusedSimpArgs false

theorem howR1 : howR 1 = orB := by funext x y; rfl
theorem howR2 : howR 2 = andB := by funext x y; rfl
theorem howR3 : howR 3 = notB := by funext x y; rfl

theorem meets_len (a b : List R4) : meetsP a b = (validP a && validP b && decide (0 < (chooseP andB a b).length)) := by
  unfold meetsP
  cases ha : validP a with
  | false => rfl
  | true =>
    cases hb : validP b with
    | false => rfl
    | true =>
      have hin : ∀ l, validP l = true → InS 268435456 l := fun l h q hq => by
        unfold validP at h
        simp only [Bool.and_eq_true, decide_eq_true_eq] at h
        have := List.all_eq_true.1 h.1.2 q hq
        simp [R4.ok] at this
        omega
      have ia := hin a ha
      have ib := hin b hb
      have hn := choose_nil (how := andB) rfl ia ib
      have ho := over_some ia ib
      rw [Bool.true_and, Bool.true_and, Bool.true_and]
      refine bool_eq ?_
      rw [ho, decide_eq_true_eq, List.length_pos_iff]
      constructor
      · rintro ⟨x, y, h⟩ h'
        have := hn.1 h' x y
        unfold andB at this
        rw [h] at this; cases this
      · intro h
        refine Classical.byContradiction fun hc => h (hn.2 fun x y => ?_)
        cases hx : andB (inL a x y) (inL b x y) with
        | false => rfl
        | true => exact absurd ⟨x, y, hx⟩ hc
set_option maxHeartbeats 8000000 in
set_option maxRecDepth 100000 in
theorem meetsR_any (A B : Option Addr) (n c m d : Nat) (a b : List R4) (w : World) (hA : SlR w A n c a) (hB : SlR w B m d b) :
    Calls Tryz.prog 43 #[.agg #[.slice A n c], .agg #[.slice B m d]] w fun e w' => e = .returned (.bool (meetsP a b)) ∧ Below w.heap.size w w' := by
  have hna := hA.len
  have hnb := hB.len
  have HA := Lib.hid hA
  have HB := Lib.hid hB
  have HVa := Lib.hid (fun W (hW : Below w.heap.size w W) => validR_any A n c a W (HA.out.below hW))
  have HVb := Lib.hid (fun W (hW : Below w.heap.size w W) => validR_any B m d b W (HB.out.below hW))
  have Hx : Hid (meetsP a b = (validP a && validP b && decide (0 < (chooseP andB a b).length))) := Lib.hid (meets_len a b)
  have Hva : Hid (validP a = true → (n ≤ 750 ∧ ∀ q ∈ a, q.l < q.r)) := Lib.hid (fun h => by
    unfold validP at h
    simp only [Bool.and_eq_true, decide_eq_true_eq] at h
    exact ⟨by omega, ok_pos h.1.2⟩)
  have Hvb : Hid (validP b = true → (m ≤ 750 ∧ ∀ q ∈ b, q.l < q.r)) := Lib.hid (fun h => by
    unfold validP at h
    simp only [Bool.and_eq_true, decide_eq_true_eq] at h
    exact ⟨by omega, ok_pos h.1.2⟩)
  generalize meetsP a b = res at *
  obtain ⟨va, hva⟩ : ∃ va, validP a = va := ⟨_, rfl⟩
  obtain ⟨vb, hvb⟩ : ∃ vb, validP b = vb := ⟨_, rfl⟩
  rw [hva] at HVa Hx Hva
  rw [hvb] at HVb Hx Hvb
  clear hva hvb
  go_enter Tryz.func43, Tryz.ntmps43
  go_upto_region 1 with fail
  obtain ⟨w1, hw1⟩ : ∃ w1 : World, w1 = (w.alloc (.cells #[.slice A n c] 34)).alloc (.cells #[.slice B m d] 34) := ⟨_, rfl⟩
  rw [← hw1]
  have HL1 : Hid (RBs w1 [⟨w.heap.size + 1, B, m, d, b⟩, ⟨w.heap.size, A, n, c, a⟩]) := Lib.hid (by rw [hw1]; exact RBs.two w A B n c m d a b hA hB)
  have Hb1 : Hid (Below w.heap.size w w1) := Lib.hid (by rw [hw1]; exact (by repeat' (first | with_reducible exact Below.refl _ _ | with_reducible refine below_drewN ?_ _ | with_reducible refine Below.drew ?_ | with_reducible refine Below.alloc ?_ ?_ _ | with_reducible refine Below.setCell ?_ ?_ _ | with_reducible refine Below.trans ?_ (Below.mono (by with_reducible assumption) ?_) | (simp; done) | (simp; omega) | omega)))
  have hs1 := Hb1.out.size
  have c0 : w1.cell? ⟨w.heap.size, 0, none⟩ = some (.slice A n c) := (HL1.out _ (.tail _ (.head _))).c0
  have c1 : w1.cell? ⟨w.heap.size + 1, 0, none⟩ = some (.slice B m d) := (HL1.out _ (.head _)).c0
  clear hw1 hA hB
  cases va with
  | false =>
    have e0 : res = false := by rw [Hx.out]; rfl
    subst e0
    go_wp2_with (first
      | (go_at_call 37
         refine (HVa.out _ Hb1.out).mono ?_
         rintro e w2 ⟨rfl, hb2⟩
         have Hb2 : Hid (Below w.heap.size w w2) := Lib.hid (Hb1.out.trans (hb2.mono hs1))
         clear hb2)
      | fail)
    go_ret
    exact ⟨rfl, Hb2.out⟩
  | true =>
    obtain ⟨hn7, ha⟩ := Hva.out rfl
    have Ha := Lib.hid ha
    clear ha Hva
    cases vb with
    | false =>
      have e0 : res = false := by rw [Hx.out]; rfl
      subst e0
      go_wp2_with (first
        | (go_at_call_of 37 (Value.slice A n c)
           refine (HVa.out _ Hb1.out).mono ?_
           rintro e w2 ⟨rfl, hb2⟩
           have Hb2 : Hid (Below w.heap.size w w2) := Lib.hid (Hb1.out.trans (hb2.mono hs1))
           have c02 : w2.cell? ⟨w.heap.size, 0, none⟩ = some (.slice A n c) := ((HL1.out.below hb2) _ (.tail _ (.head _))).c0
           have c12 : w2.cell? ⟨w.heap.size + 1, 0, none⟩ = some (.slice B m d) := ((HL1.out.below hb2) _ (.head _)).c0
           clear hb2)
        | (go_at_call_of 37 (Value.slice B m d)
           refine (HVb.out _ Hb2.out).mono ?_
           rintro e w3 ⟨rfl, hb3⟩
           have Hb3 : Hid (Below w.heap.size w w3) := Lib.hid (Hb2.out.trans (hb3.mono Hb2.out.size))
           clear hb3)
        | fail)
      go_ret
      exact ⟨rfl, Hb3.out⟩
    | true =>
      obtain ⟨hm7, hb⟩ := Hvb.out rfl
      have Hbp := Lib.hid hb
      clear hb Hvb
      have HC := Lib.hid (fun W (hW : Below w.heap.size w W) => combineR_any A B n c m d a b 2 W (HA.out.below hW) (HB.out.below hW) (by omega))
      rw [← choose_comb (howR 2) (howR_no 2) a b Ha.out Hbp.out, howR2] at HC
      have Hx2 : Hid (res = decide (0 < (chooseP andB a b).length)) := Lib.hid (by rw [Hx.out]; rfl)
      clear Hx
      generalize chooseP andB a b = cl at *
      obtain ⟨N, hN⟩ : ∃ N, cl.length = N := ⟨_, rfl⟩
      have HN := Lib.hid hN
      rw [hN] at Hx2
      have hN9 : 0 < N ∨ ¬ 0 < N := by omega
      clear hN
      rcases hN9 with hN0 | hN0
      all_goals
        first
          | (have e0 : res = true := by rw [Hx2.out, decide_eq_true hN0])
          | (have e0 : res = false := by rw [Hx2.out, decide_eq_false hN0])
        subst e0
        have hNd : decide ((0 : Int) < (N : Int)) = decide (0 < N) := by rw [Bool.eq_iff_iff]; simp
        try (have hNi : ¬ (0 : Int) < (N : Int) := by omega)
        try (have hNj : (0 : Int) < (N : Int) := by omega)
        go_wp2_with (first
          | (go_at_call_of 37 (Value.slice A n c)
             refine (HVa.out _ Hb1.out).mono ?_
             rintro e w2 ⟨rfl, hb2⟩
             have Hb2 : Hid (Below w.heap.size w w2) := Lib.hid (Hb1.out.trans (hb2.mono hs1))
             have HL2 := Lib.hid (HL1.out.below hb2)
             have c02 : w2.cell? ⟨w.heap.size, 0, none⟩ = some (.slice A n c) := (HL2.out _ (.tail _ (.head _))).c0
             have c12 : w2.cell? ⟨w.heap.size + 1, 0, none⟩ = some (.slice B m d) := (HL2.out _ (.head _)).c0
             clear hb2)
          | (go_at_call_of 37 (Value.slice B m d)
             refine (HVb.out _ Hb2.out).mono ?_
             rintro e w3 ⟨rfl, hb3⟩
             have Hb3 : Hid (Below w.heap.size w w3) := Lib.hid (Hb2.out.trans (hb3.mono Hb2.out.size))
             have HL3 := Lib.hid (HL2.out.below hb3)
             have c03 : w3.cell? ⟨w.heap.size, 0, none⟩ = some (.slice A n c) := (HL3.out _ (.tail _ (.head _))).c0
             have c13 : w3.cell? ⟨w.heap.size + 1, 0, none⟩ = some (.slice B m d) := (HL3.out _ (.head _)).c0
             clear hb3)
          | (go_at_call 38
             refine (HC.out _ Hb3.out).mono ?_
             rintro e w4 ⟨v4, rfl, hown4, hb4⟩
             obtain ⟨E, ec, rfl, _⟩ := SlR.of_own hown4
             rw [HN.out]
             have Hb4 : Hid (Below w.heap.size w w4) := Lib.hid (Hb3.out.trans (hb4.mono Hb3.out.size))
             clear hown4 hb4)
          | fail)
        go_ret
        exact ⟨by simp [hN0], Hb4.out⟩

end Go.Proofs.YtabcadpfhachoaaGreat

namespace Go.Proofs.YtabcadpfhachoaaGreat
open Go.RowKit
set_option linter.unusedVariables false
set_option linter.unusedSimpArgs false

def chainP (how : Bool → Bool → Bool) (a : List R4) (l : List (List R4)) : List R4 := l.foldl (fun left b => combP how left b) a
theorem chainP_snoc (how : Bool → Bool → Bool) (a : List R4) (l : List (List R4)) (b : List R4) : chainP how a (l ++ [b]) = combP how (chainP how a l) b := by
  unfold chainP
  rw [List.foldl_append]
  rfl
theorem chain_not : ∀ (l : List (List R4)) {P : Int → Int → Bool} {a : List R4}, Canon P a → Canon (fun x y => P x y && !inL l.flatten x y) (chainP notB a l)
  | [], P, a, h => h.congr fun x y => by simp [inL]
  | b :: t, P, a, h => by
    have h1 : Canon (fun x y => P x y && !inL b x y) (combP notB a b) := (comb_canon notB rfl a b).congr fun x y => by rw [h.mem x y]; rfl
    refine (chain_not t h1).congr fun x y => ?_
    rw [List.flatten_cons]
    have : inL (b ++ t.flatten) x y = (inL b x y || inL t.flatten x y) := by simp [inL]
    rw [this]
    cases P x y <;> cases inL b x y <;> simp
theorem chain_or : ∀ (l : List (List R4)) {P : Int → Int → Bool} {a : List R4}, Canon P a → Canon (fun x y => P x y || inL l.flatten x y) (chainP orB a l)
  | [], P, a, h => h.congr fun x y => by simp [inL]
  | b :: t, P, a, h => by
    have h1 : Canon (fun x y => P x y || inL b x y) (combP orB a b) := (comb_canon orB rfl a b).congr fun x y => by rw [h.mem x y]; rfl
    refine (chain_or t h1).congr fun x y => ?_
    rw [List.flatten_cons]
    have : inL (b ++ t.flatten) x y = (inL b x y || inL t.flatten x y) := by simp [inL]
    rw [this]
    cases P x y <;> cases inL b x y <;> simp
theorem canon_own {a : List R4} (ha : ∀ q ∈ a, q.l < q.r) (hc : canonP a = a) : Canon (fun x y => inL a x y) a := by
  have h := comb_canon (fun x y => x || y) rfl a []
  rw [← canonP_comb a ha, hc] at h
  exact h.congr fun x y => by simp [inL]
theorem cut_len (l : List R4) : (xEdges l).length = 2 * l.length ∧ (yEdges l).length = 2 * l.length := by
  refine ⟨?_, yEdges_len l⟩
  unfold xEdges
  induction l with
  | nil => rfl
  | cons a t ih => rw [List.flatMap_cons, List.length_append, ih]; simp; omega
theorem canon_two {P : Int → Int → Bool} {R a b : List R4} (how : Bool → Bool → Bool) (h : Canon P R) (hP : ∀ x y, P x y = how (inL a x y) (inL b x y)) : R.length ≤ (2 * (a.length + b.length)) * (a.length + b.length) := by
  have hX : ∀ y, Cut (xEdges (a ++ b)) (fun x => P x y) := fun y => by
    rw [show (fun x => P x y) = fun x => how (inL a x y) (inL b x y) from by funext x; exact hP x y]
    exact Cut.how how ((cut_inL y a).mono fun x hx => by simp only [xEdges, List.flatMap_append]; exact List.mem_append_left _ hx) ((cut_inL y b).mono fun x hx => by simp only [xEdges, List.flatMap_append]; exact List.mem_append_right _ hx)
  have hY : ∀ x, Cut (yEdges (a ++ b)) (fun y => P x y) := fun x => by
    rw [show (fun y => P x y) = fun y => how (inL a x y) (inL b x y) from by funext y; exact hP x y]
    exact Cut.how how ((cut_inLY x a).mono fun x hx => by simp only [yEdges, List.flatMap_append]; exact List.mem_append_left _ hx) ((cut_inLY x b).mono fun x hx => by simp only [yEdges, List.flatMap_append]; exact List.mem_append_right _ hx)
  have := canon_cuts h hX hY
  rw [(cut_len _).1, (cut_len _).2, List.length_append] at this
  rw [show 2 * (a.length + b.length) / 2 = a.length + b.length by omega] at this
  exact this
/-- The reference's Cover leaves what the program's Choose leaves. -/
theorem chain_cover {a : List R4} {l : List (List R4)} (ha : validP a = true) (hl : l.all validP = true) : chainP notB a l = chooseP notB a l.flatten := by
  obtain ⟨_, h1, h2⟩ := valid_parts ha
  have hp : ∀ q ∈ l.flatten, q.l < q.r := fun q hq => by
    obtain ⟨b, hb, hq⟩ := List.mem_flatten.1 hq
    exact ok_pos (valid_parts (List.all_eq_true.1 hl b hb)).2.1 q hq
  rw [choose_comb notB rfl a l.flatten (ok_pos h1) hp]
  exact (chain_not l (canon_own (ok_pos h1) h2)).uniq ((comb_canon notB rfl a l.flatten).congr fun x y => rfl)
theorem chain_cover_len {a : List R4} {l : List (List R4)} (ha : validP a = true) : (chainP notB a l).length ≤ (2 * (a.length + l.flatten.length)) * (a.length + l.flatten.length) := by
  obtain ⟨_, h1, h2⟩ := valid_parts ha
  exact canon_two notB (chain_not l (canon_own (ok_pos h1) h2)) fun x y => rfl
/-- The reference's union of many. -/
theorem chain_union (l : List (List R4)) (hp : ∀ q ∈ l.flatten, q.l < q.r) : chainP orB [] l = canonP l.flatten := by
  rw [canonP_comb _ hp]
  have h0 : Canon (fun _ _ => false) ([] : List R4) := (canon_own (a := []) (fun q hq => by cases hq) (by rw [canonP_comb _ (fun q hq => by cases hq)]; decide)).congr fun x y => rfl
  exact (chain_or l h0).uniq ((comb_canon (fun x y => x || y) rfl l.flatten []).congr fun x y => by simp [inL])
theorem chain_union_len (l : List (List R4)) : (chainP orB [] l).length ≤ (2 * l.flatten.length) * l.flatten.length := by
  have h0 : Canon (fun _ _ => false) ([] : List R4) := (canon_own (a := []) (fun q hq => by cases hq) (by rw [canonP_comb _ (fun q hq => by cases hq)]; decide)).congr fun x y => rfl
  have := canon_two (a := []) (b := l.flatten) orB (chain_or l h0) fun x y => rfl
  simpa using this
end Go.Proofs.YtabcadpfhachoaaGreat

namespace Go.Proofs.YtabcadpfhachoaaGreat
open Go.RowKit Go.Shelf
set_option linter.unusedVariables false
set_option linter.unusedSimpArgs false

set_option maxHeartbeats 2000000 in
set_option maxRecDepth 100000 in
theorem validL_any (A : Option Addr) (n c : Nat) (l : RL) (w : World) (hA : SlG w A n c l) : Calls Tryz.prog 40 #[.slice A n c] w fun e w' => e = .returned (.int .i64 (regsP (rgs l))) ∧ Below w.heap.size w w' := by
  have hlen : (rgs l).length = n := by rw [rgs_len]; exact hA.len
  have HA := Lib.hid hA
  have Hres : Hid (regsP (rgs l) = if 60 < n then 1 else if (rgs l).all validP then 0 else 7) := Lib.hid (by unfold regsP; rw [hlen])
  have Hlen := Lib.hid hlen
  generalize regsP (rgs l) = res at *
  clear hA hlen
  go_enter Tryz.func40, Tryz.ntmps40
  by_cases h60 : 60 < n
  · have h60' : (60 : Int) < (n : Int) := by omega
    go_wp2
    go_ret
    exact ⟨by rw [Hres.out, if_pos h60]; rfl, Below.refl _ _⟩
  · have h60' : ¬ (60 : Int) < (n : Int) := by omega
    go_upto_region 4 with fail
    go_loopw [10] (fun iv wr => ∃ k : Nat, iv = .int .i64 (k : Int) ∧ k ≤ n ∧ Hid (((rgs l).take k).all validP = true) ∧ Below w.heap.size w wr) (fun iv _ => n - (intOf iv).toNat)
    case atStart => exact ⟨0, rfl, by omega, Lib.hid rfl, Below.refl _ _⟩
    case round =>
      obtain ⟨k, rfl, hkn, Hall, hbr⟩ := hrel
      have Hbr := Lib.hid hbr
      have hsr := hbr.size
      clear hbr
      by_cases hk : k < n
      · have hk' : (k : Int) < (n : Int) := by omega
        have hkl : k < l.length := by have := HA.out.len; omega
        obtain ⟨b, off, rfl, hb, c0, hsl⟩ := (HA.out.below Hbr.out).at k hkl
        have hg : (rgs l)[k]'(by rw [rgs_len]; exact hkl) = l[k].1 := by simp [rgs]
        have Hnx : Hid (((rgs l).take (k + 1)).all validP = validP l[k].1) := Lib.hid (by rw [List.take_succ_eq_append_getElem (by rw [rgs_len]; exact hkl), List.all_append, Hall.out, hg]; simp)
        have Hbad : Hid (validP l[k].1 = false → res = 7) := Lib.hid (fun h => by
          rw [Hres.out, if_neg h60, if_neg]
          intro hc
          have := List.all_eq_true.1 hc _ (List.getElem_mem (by rw [rgs_len]; exact hkl))
          rw [hg, h] at this
          cases this)
        have Hv := Lib.hid (fun W hW => validR_any _ _ _ _ W (hsl.below hW))
        obtain ⟨D, hD⟩ : ∃ D, l[k].2.a = D := ⟨_, rfl⟩
        obtain ⟨q, hq⟩ : ∃ q, l[k].1.length = q := ⟨_, rfl⟩
        obtain ⟨d, hd⟩ : ∃ d, l[k].2.c = d := ⟨_, rfl⟩
        obtain ⟨v, hv⟩ : ∃ v, validP l[k].1 = v := ⟨_, rfl⟩
        rw [hD, hq, hd, hv] at Hv
        rw [hD, hq, hd] at c0
        rw [hv] at Hnx Hbad
        clear hg hD hq hd hv hsl
        cases v
        · have Hr := Lib.hid (Hbad.out rfl)
          go_wp2_with (first
            | (go_at_call 37
               refine (Hv.out _ ((Below.refl _ _).alloc (Nat.le_refl _) _)).mono ?_
               rintro e w5 ⟨rfl, hb5⟩
               have Hb5 : Hid (Below wr.heap.size wr w5) := Lib.hid (show Below wr.heap.size wr w5 from (by have hbq := hb5; exact (by repeat' (first | with_reducible exact Below.refl _ _ | with_reducible assumption | with_reducible refine below_drewN ?_ _ | with_reducible refine Below.drew ?_ | with_reducible refine Below.alloc ?_ ?_ _ | with_reducible refine Below.setCell ?_ ?_ _ | with_reducible refine Below.trans ?_ (Below.mono (by with_reducible assumption) ?_) | with_reducible refine below_only ?_ (by with_reducible assumption) ?_ ?_ | (simp; done) | (simp; omega) | omega))))
               clear hb5)
            | fail)
          go_ret
          exact ⟨by rw [Hr.out]; rfl, Hbr.out.trans (Hb5.out.mono hsr)⟩
        · go_wp2_with (first
            | (go_at_call 37
               refine (Hv.out _ ((Below.refl _ _).alloc (Nat.le_refl _) _)).mono ?_
               rintro e w5 ⟨rfl, hb5⟩
               have Hb5 : Hid (Below wr.heap.size wr w5) := Lib.hid (show Below wr.heap.size wr w5 from (by have hbq := hb5; exact (by repeat' (first | with_reducible exact Below.refl _ _ | with_reducible assumption | with_reducible refine below_drewN ?_ _ | with_reducible refine Below.drew ?_ | with_reducible refine Below.alloc ?_ ?_ _ | with_reducible refine Below.setCell ?_ ?_ _ | with_reducible refine Below.trans ?_ (Below.mono (by with_reducible assumption) ?_) | with_reducible refine below_only ?_ (by with_reducible assumption) ?_ ?_ | (simp; done) | (simp; omega) | omega))))
               clear hb5)
            | fail)
          go_roundw
          case rel => exact ⟨k + 1, by go_num, by omega, Lib.hid Hnx.out, Hbr.out.trans (Hb5.out.mono hsr)⟩
          case measure => simp [intOf]; omega
      · obtain rfl : k = n := by omega
        go_wp2
        go_ret
        have hall := Hall.out
        rw [List.take_of_length_le (by rw [Hlen.out]; exact Nat.le_refl _)] at hall
        exact ⟨by rw [Hres.out, if_neg h60, if_pos hall]; rfl, Hbr.out⟩

set_option maxHeartbeats 4000000 in
set_option maxRecDepth 100000 in
theorem checkR_any (A : Option Addr) (n c : Nat) (l : FL) (w : World) (hA : SlF w A n c l) : Calls Tryz.prog 45 #[.slice A n c] w fun e w' => e = .returned (.int .i64 (checkFP (fcs l))) ∧ Below w.heap.size w w' := by
  have hlen : (fcs l).length = n := by rw [fcs, List.length_map]; exact hA.len
  have HA := Lib.hid hA
  have Hres : Hid (checkFP (fcs l) = if 200 < n then 1 else if (fcs l).all (fun f => validP f.rg) then (if ascF (fcs l) then 0 else 3) else 7) := Lib.hid (by unfold checkFP; rw [hlen])
  have Hlen := Lib.hid hlen
  generalize checkFP (fcs l) = res at *
  clear hA hlen
  go_enter Tryz.func45, Tryz.ntmps45
  by_cases h200 : 200 < n
  · have h200' : (200 : Int) < (n : Int) := by omega
    go_wp2
    go_ret
    exact ⟨by rw [Hres.out, if_pos h200]; rfl, Below.refl _ _⟩
  · have h200' : ¬ (200 : Int) < (n : Int) := by omega
    go_upto_region 4 with fail
    go_loopw [13] (fun iv wr => ∃ k : Nat, iv = .int .i64 (k : Int) ∧ k ≤ n ∧ Hid (((fcs l).take k).all (fun f => validP f.rg) = true) ∧ Below w.heap.size w wr) (fun iv _ => n - (intOf iv).toNat)
    case atStart => exact ⟨0, rfl, by omega, Lib.hid rfl, Below.refl _ _⟩
    case round =>
      obtain ⟨k, rfl, hkn, Hall, hbr⟩ := hrel
      have Hbr := Lib.hid hbr
      have hsr := hbr.size
      clear hbr
      by_cases hk : k < n
      · have hk' : (k : Int) < (n : Int) := by omega
        have hkl : k < l.length := by have := HA.out.len; omega
        obtain ⟨b, off, rfl, hb, c0, c1, hsl⟩ := (HA.out.below Hbr.out).at k hkl
        have hg : (fcs l)[k]'(by rw [Hlen.out]; exact hk) = l[k].1 := by simp [fcs]
        have Hnx : Hid (((fcs l).take (k + 1)).all (fun f => validP f.rg) = validP l[k].1.rg) := Lib.hid (by rw [List.take_succ_eq_append_getElem (by rw [Hlen.out]; exact hk), List.all_append, Hall.out, hg]; simp)
        have Hbad : Hid (validP l[k].1.rg = false → res = 7) := Lib.hid (fun h => by
          rw [Hres.out, if_neg h200, if_neg]
          intro hc
          have := List.all_eq_true.1 hc _ (List.getElem_mem (by rw [Hlen.out]; exact hk))
          rw [hg, h] at this
          cases this)
        have Hv := Lib.hid (fun W hW => validR_any _ _ _ _ W (hsl.below hW))
        obtain ⟨z, hz⟩ : ∃ z, l[k].1.set = z := ⟨_, rfl⟩
        obtain ⟨D, hD⟩ : ∃ D, l[k].2.a = D := ⟨_, rfl⟩
        obtain ⟨q, hq⟩ : ∃ q, l[k].1.rg.length = q := ⟨_, rfl⟩
        obtain ⟨d, hd⟩ : ∃ d, l[k].2.c = d := ⟨_, rfl⟩
        obtain ⟨v, hv⟩ : ∃ v, validP l[k].1.rg = v := ⟨_, rfl⟩
        rw [hD, hq, hd, hv] at Hv
        rw [hz] at c0
        rw [hD, hq, hd] at c1
        rw [hv] at Hnx Hbad
        clear hg hz hD hq hd hv hsl
        cases v
        · have Hr := Lib.hid (Hbad.out rfl)
          go_wp2_with (first
            | (go_at_call 37
               refine (Hv.out _ ((Below.refl _ _).alloc (Nat.le_refl _) _)).mono ?_
               rintro e w5 ⟨rfl, hb5⟩
               have Hb5 : Hid (Below wr.heap.size wr w5) := Lib.hid (show Below wr.heap.size wr w5 from (by have hbq := hb5; exact (by repeat' (first | with_reducible exact Below.refl _ _ | with_reducible assumption | with_reducible refine below_drewN ?_ _ | with_reducible refine Below.drew ?_ | with_reducible refine Below.alloc ?_ ?_ _ | with_reducible refine Below.setCell ?_ ?_ _ | with_reducible refine Below.trans ?_ (Below.mono (by with_reducible assumption) ?_) | with_reducible refine below_only ?_ (by with_reducible assumption) ?_ ?_ | (simp; done) | (simp; omega) | omega))))
               clear hb5)
            | fail)
          go_ret
          exact ⟨by rw [Hr.out]; rfl, Hbr.out.trans (Hb5.out.mono hsr)⟩
        · go_wp2_with (first
            | (go_at_call 37
               refine (Hv.out _ ((Below.refl _ _).alloc (Nat.le_refl _) _)).mono ?_
               rintro e w5 ⟨rfl, hb5⟩
               have Hb5 : Hid (Below wr.heap.size wr w5) := Lib.hid (show Below wr.heap.size wr w5 from (by have hbq := hb5; exact (by repeat' (first | with_reducible exact Below.refl _ _ | with_reducible assumption | with_reducible refine below_drewN ?_ _ | with_reducible refine Below.drew ?_ | with_reducible refine Below.alloc ?_ ?_ _ | with_reducible refine Below.setCell ?_ ?_ _ | with_reducible refine Below.trans ?_ (Below.mono (by with_reducible assumption) ?_) | with_reducible refine below_only ?_ (by with_reducible assumption) ?_ ?_ | (simp; done) | (simp; omega) | omega))))
               clear hb5)
            | fail)
          go_roundw
          case rel => exact ⟨k + 1, by go_num, by omega, Lib.hid Hnx.out, Hbr.out.trans (Hb5.out.mono hsr)⟩
          case measure => simp [intOf]; omega
      · obtain rfl : k = n := by omega
        have hall := Hall.out
        rw [List.take_of_length_le (by rw [Hlen.out]; exact Nat.le_refl _)] at hall
        have Hr2 : Hid (res = if 200 < k then 1 else if True then (if ascF (fcs l) then 0 else 3) else 7) := Lib.hid (by rw [Hres.out]; simp [hall])
        have Hbr0 := Lib.hid Hbr.out
        have Hres := Lib.hid Hr2.out
        clear Hr2 hall Hall hkn hk hsr
        obtain ⟨w0, rfl⟩ : ∃ w0 : World, w0 = wr := ⟨_, rfl⟩
        clear Hbr
        obtain ⟨n, rfl⟩ : ∃ n : Nat, n = k := ⟨_, rfl⟩
        go_upto_region 11 with fail
        go_loopw [5, 24] (fun lv iv wr => ∃ k : Nat, iv = .int .i64 (k : Int) ∧ k ≤ n ∧ lv = .int .i64 (lastOf (fcs l) k) ∧ Hid ((List.range k).all (okAt (fcs l)) = true) ∧ Below w.heap.size w wr) (fun _ iv _ => n - (intOf iv).toNat)
        case atStart => exact ⟨0, rfl, by omega, rfl, Lib.hid rfl, Hbr0.out⟩
        case round =>
          obtain ⟨k, rfl, hkn, rfl, Hall, hbr⟩ := hrel
          have Hbr := Lib.hid hbr
          have hsr := hbr.size
          clear hbr
          by_cases hk : k < n
          · have hk' : (k : Int) < (n : Int) := by omega
            have hkl : k < l.length := by have := HA.out.len; omega
            obtain ⟨b, off, rfl, hb, c0, c1, _⟩ := (HA.out.below Hbr.out).at k hkl
            have hg : (fcs l).getD k ⟨0, []⟩ = l[k].1 := by simp [fcs, List.getD, List.getElem?_eq_getElem hkl]
            have Hok : Hid (okAt (fcs l) k = (decide (lastOf (fcs l) k < l[k].1.set) && decide (l[k].1.set < 4096))) := Lib.hid (by unfold okAt; rw [hg])
            have Hlast : Hid (lastOf (fcs l) (k + 1) = l[k].1.set) := Lib.hid (by show ((fcs l).getD k ⟨0, []⟩).set = _; rw [hg])
            obtain ⟨z, hz⟩ : ∃ z, l[k].1.set = z := ⟨_, rfl⟩
            obtain ⟨D, hD⟩ : ∃ D, l[k].2.a = D := ⟨_, rfl⟩
            obtain ⟨q, hq⟩ : ∃ q, l[k].1.rg.length = q := ⟨_, rfl⟩
            obtain ⟨d, hd⟩ : ∃ d, l[k].2.c = d := ⟨_, rfl⟩
            rw [hz] at c0 Hok Hlast
            rw [hD, hq, hd] at c1
            obtain ⟨lt, hlt⟩ : ∃ lt, lastOf (fcs l) k = lt := ⟨_, rfl⟩
            rw [hlt] at Hok ⊢
            clear hg hz hD hq hd hlt
            have Hbad : Hid (okAt (fcs l) k = false → res = 3) := Lib.hid (fun h => by
              rw [Hres.out, if_neg h200, if_pos trivial, if_neg]
              intro hc
              have := List.all_eq_true.1 hc k (List.mem_range.2 (by rw [Hlen.out]; exact hk))
              rw [h] at this
              cases this)
            by_cases h1 : lt < z
            · have h1' : ¬ z ≤ lt := by omega
              by_cases h2 : z < 4096
              · have h2' : ¬ 4096 ≤ z := by omega
                go_wp2
                go_roundw
                case rel => exact ⟨k + 1, by go_num, by omega, by rw [Hlast.out], Lib.hid (by rw [List.range_succ, List.all_append, Hall.out, List.all_cons, Hok.out]; simp [h1, h2]), Hbr.out.alloc hsr _⟩
                case measure => simp [intOf]; omega
              · have h2' : 4096 ≤ z := by omega
                have Hr := Lib.hid (Hbad.out (by rw [Hok.out]; simp [h2]))
                go_wp2
                go_ret
                exact ⟨by rw [Hr.out]; rfl, Hbr.out.alloc hsr _⟩
            · have h1' : z ≤ lt := by omega
              have Hr := Lib.hid (Hbad.out (by rw [Hok.out]; simp [h1]))
              go_wp2
              go_ret
              exact ⟨by rw [Hr.out]; rfl, Hbr.out.alloc hsr _⟩
          · obtain rfl : k = n := by omega
            go_wp2
            go_ret
            refine ⟨?_, Hbr.out⟩
            rw [Hres.out, if_neg h200, if_pos trivial, if_pos (by unfold ascF; rw [Hlen.out]; exact Hall.out)]
            rfl
set_option maxHeartbeats 4000000 in
set_option maxRecDepth 100000 in
theorem areasR_any (A : Option Addr) (n c : Nat) (l : FL) (w : World) (hA : SlF w A n c l) (hn200 : n ≤ 1000) : Calls Tryz.prog 24 #[.slice A n c] w (AsPost w (areasFP (fcs l))) := by
  obtain ⟨i0, hi, hz0, hz1, hz2⟩ := info_parts Tryz.infoPair
  have hlen : (fcs l).length = n := by rw [fcs, List.length_map]; exact hA.len
  have HA := Lib.hid hA
  have Hck := Lib.hid (checkR_any A n c l w hA)
  have Hres : Hid (areasFP (fcs l) = if checkFP (fcs l) = 0 then ((fcs l).map fun f => (f.set, areaP f.rg), 0) else ([], checkFP (fcs l))) := Lib.hid rfl
  have Hlen := Lib.hid hlen
  generalize areasFP (fcs l) = res at *
  generalize checkFP (fcs l) = er at *
  clear hA hlen
  go_enter Tryz.func24, Tryz.ntmps24
  by_cases her : er = 0
  · subst her
    go_upto_region 6 with (first | (go_at_call 45; refine Hck.out.mono ?_; rintro e w1 ⟨rfl, hb1⟩) | fail)
    have Hb1 := Lib.hid hb1
    have hs1 := hb1.size
    clear hb1 Hck
    go_loopw [5, 15] (fun v iv wr => ∃ k : Nat, iv = .int .i64 (k : Int) ∧ k ≤ n ∧ wr.ownsRow w.heap.size 56 2 v k (prCells (((fcs l).take k).map fun f => (f.set, areaP f.rg))) ∧ Below w.heap.size w wr) (fun _ iv _ => n - (intOf iv).toNat)
    case atStart => exact ⟨0, rfl, by omega, World.ownsRow_nil _ _ _ _, Hb1.out⟩
    case round =>
      obtain ⟨k, rfl, hkn, hown, hbr⟩ := hrel
      have Hbr := Lib.hid hbr
      have hsr := hbr.size
      have Hown := Lib.hid hown
      obtain ⟨VA, vc, rfl, _, _, _⟩ := own_slice hown
      clear hbr hown
      by_cases hk : k < n
      · have hk' : (k : Int) < (n : Int) := by omega
        have hkl : k < l.length := by have := HA.out.len; omega
        obtain ⟨b, off, rfl, hb, c0, c1, hsl⟩ := (HA.out.below Hbr.out).at k hkl
        have Hnx : Hid (prCells (((fcs l).take (k + 1)).map fun f => (f.set, areaP f.rg)) = prCells (((fcs l).take k).map fun f => (f.set, areaP f.rg)) ++ [.int .i64 l[k].1.set, .int .i64 (areaP l[k].1.rg)]) := Lib.hid (by
          rw [List.take_succ_eq_append_getElem (by rw [Hlen.out]; exact hk), List.map_append, List.map_singleton, prCells_snoc]
          simp [fcs])
        have Har := Lib.hid (fun W hW => areaR_any _ _ _ _ W (hsl.below hW))
        obtain ⟨z, hz⟩ : ∃ z, l[k].1.set = z := ⟨_, rfl⟩
        obtain ⟨D, hD⟩ : ∃ D, l[k].2.a = D := ⟨_, rfl⟩
        obtain ⟨q, hq⟩ : ∃ q, l[k].1.rg.length = q := ⟨_, rfl⟩
        obtain ⟨d, hd⟩ : ∃ d, l[k].2.c = d := ⟨_, rfl⟩
        obtain ⟨ar, har⟩ : ∃ ar, areaP l[k].1.rg = ar := ⟨_, rfl⟩
        rw [hz, har] at Hnx
        rw [hD, hq, hd, har] at Har
        rw [hz] at c0
        rw [hD, hq, hd] at c1
        clear hz hD hq hd har hsl
        go_upto_region 8 with fail
        have Hrow : Hid ((wr.alloc (.cells #[.int .i64 z, .slice D q d] 36)).heap[wr.heap.size]? = some (.cells #[.int .i64 z, .slice D q d] 36 (0, 0))) := Lib.hid (heap_alloc_new wr _)
        have Hb8 : Hid (Below wr.heap.size wr (wr.alloc (.cells #[.int .i64 z, .slice D q d] 36))) := Lib.hid ((Below.refl _ _).alloc (Nat.le_refl _) _)
        have hs8 : wr.heap.size < (wr.alloc (.cells #[.int .i64 z, .slice D q d] 36)).heap.size := by simp
        generalize wr.alloc (.cells #[.int .i64 z, .slice D q d] 36) = w8 at *
        have Hown8 := Lib.hid (ownsRow_below Hown.out Hb8.out)
        obtain ⟨P0, hP0⟩ : ∃ P, wr.heap.size = P := ⟨_, rfl⟩
        rw [hP0] at Hrow hs8 ⊢
        have hP0w : w.heap.size ≤ P0 := by omega
        refine wp_region_held (S := fun w' => w'.cell? ⟨P0, 0, none⟩ = some (.int .i64 z) ∧ w'.cell? ⟨P0, 1, none⟩ = some (.slice D q d)) (by kernel_rfl) ?_
        change wpAnyH _ _ _ _ _ 10 #[false, false, false, false, false, false, false, false, false, false] _ w8.drew
        have y0 := cell_of_row _ _ 0 _ _ _ Hrow.out
        have y1 := cell_of_row _ _ 1 _ _ _ Hrow.out
        have hHeld : (fun w' : World => w'.cell? ⟨P0, 0, none⟩ = some (.int .i64 z) ∧ w'.cell? ⟨P0, 1, none⟩ = some (.slice D q d)) w8.drew := ⟨y0, y1⟩
        obtain ⟨w9, hw9⟩ : ∃ w9 : World, w9 = w8.drew := ⟨_, rfl⟩
        have Hrow9 : Hid (w9.heap[P0]? = some (.cells #[.int .i64 z, .slice D q d] 36 (0, 0))) := Lib.hid (by rw [hw9]; exact Hrow.out)
        have Hb9 : Hid (Below wr.heap.size wr w9) := Lib.hid (by rw [hw9]; exact Hb8.out.drew)
        have Hown9 : Hid (w9.ownsRow w.heap.size 56 2 (.slice VA k vc) k (prCells (((fcs l).take k).map fun f => (f.set, areaP f.rg)))) := Lib.hid (by rw [hw9]; exact Hown8.out)
        have hs9 : P0 < w9.heap.size := by rw [hw9]; exact hs8
        rw [← hw9] at hHeld ⊢
        clear hw9 y0 y1 Hrow Hb8 Hown8 hs8
        refine wpAnyH_take (i := 0) (v := ?vva0) rfl (by kernel_rfl) (by kernel_rfl) (by kernel_rfl) (fun _ _ _ h => h) (Or.inl ⟨by rfl, ?hya0⟩) hHeld ?resta0; (case hya0 => (intro w hSw; (try dsimp only at hSw); go_simp; all_goals (with_reducible rfl))); simp only [Act.put, List.getElem_toArray, List.getElem_cons_zero, List.getElem_cons_succ, List.setIfInBounds_toArray, List.set_cons_zero, List.set_cons_succ]
        refine wpAnyH_take (i := 1) (v := ?vva1) rfl (by kernel_rfl) (by kernel_rfl) (by kernel_rfl) (fun _ _ _ h => h) (Or.inl ⟨by rfl, ?hya1⟩) hHeld ?resta1; (case hya1 => (intro w hSw; (try dsimp only at hSw); go_simp; all_goals (with_reducible rfl))); simp only [Act.put, List.getElem_toArray, List.getElem_cons_zero, List.getElem_cons_succ, List.setIfInBounds_toArray, List.set_cons_zero, List.set_cons_succ]
        refine wpAnyH_take (i := 2) (v := ?vva2) rfl (by kernel_rfl) (by kernel_rfl) (by kernel_rfl) (fun _ _ _ h => h) (Or.inl ⟨by rfl, ?hya2⟩) hHeld ?resta2; (case hya2 => (intro w hSw; (try dsimp only at hSw); go_simp; all_goals (with_reducible rfl))); simp only [Act.put, List.getElem_toArray, List.getElem_cons_zero, List.getElem_cons_succ, List.setIfInBounds_toArray, List.set_cons_zero, List.set_cons_succ]
        refine wpAnyH_take (i := 3) (v := ?vva3) rfl (by kernel_rfl) (by kernel_rfl) (by kernel_rfl) (fun _ _ _ h => h) (Or.inl ⟨by rfl, ?hya3⟩) hHeld ?resta3; (case hya3 => (intro w hSw; (try dsimp only at hSw); go_simp; all_goals (with_reducible rfl))); simp only [Act.put, List.getElem_toArray, List.getElem_cons_zero, List.getElem_cons_succ, List.setIfInBounds_toArray, List.set_cons_zero, List.set_cons_succ]
        refine wpAnyH_take (i := 4) (v := ?vva4) rfl (by kernel_rfl) (by kernel_rfl) (by kernel_rfl) (fun _ _ _ h => h) (Or.inl ⟨by rfl, ?hya4⟩) hHeld ?resta4; (case hya4 => (intro w hSw; (try dsimp only at hSw); go_simp; all_goals (with_reducible rfl))); simp only [Act.put, List.getElem_toArray, List.getElem_cons_zero, List.getElem_cons_succ, List.setIfInBounds_toArray, List.set_cons_zero, List.set_cons_succ]
        refine wpAnyH_ready (rs := [5]) (by kernel_rfl) (by simp) ?_; refine AllReadyH.cons rfl (fun K hK => ?_) AllReadyH.nil
        go_simp
        refine (Har.out _ Hb9.out).mono ?_
        rintro e w5 ⟨rfl, hb5⟩
        have hrow5 := (hb5.block P0 hs9).trans Hrow9.out
        have Hb5 := Lib.hid hb5
        have Hown5 := Lib.hid (ownsRow_below Hown9.out hb5)
        have hs5 := hb5.size
        refine hK.out _ _ ⟨cell_of_row _ _ 0 _ _ _ hrow5, cell_of_row _ _ 1 _ _ _ hrow5⟩ (fun hHeld => ?_)
        have Hrow5 := Lib.hid hrow5
        clear hK K hrow5 hb5
        try simp only [Act.put, List.getElem_toArray, List.getElem_cons_zero, List.getElem_cons_succ, List.setIfInBounds_toArray, List.set_cons_zero, List.set_cons_succ]
        refine wpAnyH_take (i := 6) (v := ?vva6) rfl (by kernel_rfl) (by kernel_rfl) (by kernel_rfl) (fun _ _ _ h => h) (Or.inl ⟨by rfl, ?hya6⟩) hHeld ?resta6; (case hya6 => (intro w hSw; (try dsimp only at hSw); go_simp; all_goals (with_reducible rfl))); simp only [Act.put, List.getElem_toArray, List.getElem_cons_zero, List.getElem_cons_succ, List.setIfInBounds_toArray, List.set_cons_zero, List.set_cons_succ]
        refine wpAnyH_ready (rs := [7]) (by kernel_rfl) (by simp) ?_; refine AllReadyH.cons rfl (fun K hK => ?_) AllReadyH.nil
        go_simp
        have hrow6 : (w5.alloc (.cells #[.int .i64 z, .int .i64 ar] 56)).heap[P0]? = _ := (Below.heap_alloc _ _ _ (by omega)).trans Hrow5.out
        refine hK.out _ _ ⟨cell_of_row _ _ 0 _ _ _ hrow6, cell_of_row _ _ 1 _ _ _ hrow6⟩ (fun hHeld => ?_)
        clear hK K hrow6
        try simp only [Act.put, List.getElem_toArray, List.getElem_cons_zero, List.getElem_cons_succ, List.setIfInBounds_toArray, List.set_cons_zero, List.set_cons_succ]
        refine wpAnyH_ready (rs := [8]) (by kernel_rfl) (by simp) ?_; refine AllReadyH.cons rfl (fun K hK => ?_) AllReadyH.nil
        refine step_append_any _ rfl (.tmp 19) (.tmp 26) 53 rfl w.heap.size 56 i0 (.agg #[.int .i64 0, .int .i64 0]) 2 16 Tryz.underlying53 hi hz0 hz1 hz2 rfl (by omega) (.slice VA k vc) k (prCells (((fcs l).take k).map fun f => (f.set, areaP f.rg))) rfl (Hown5.out.alloc _) (w5.heap.size + 1) _ 1 1 [.int .i64 z, .int .i64 ar] rfl ⟨rfl, fun _ => ⟨_, rfl, Nat.lt_succ_self _, fun j u hu => (by exact World.news_of_block (heap_alloc_new w5 (.cells #[.int .i64 z, .int .i64 ar] 56)) j u hu)⟩⟩ (by simp [Value.oneCell']) (by simp only [maxLen]; omega) (by omega) (by have := Hb9.out.size; simp; omega) ?_
        intro v7 w7 hown7 hg7 hat7
        have hob := own_base Hown5.out
        have hP05 : (Value.slice VA k vc).ownBlock ≠ some P0 := fun e => by have := own_lt Hown.out _ e; omega
        have hrow7 := (hg7.block P0 (by simp; omega) (fun e => hP05 e.symm)).trans ((Below.heap_alloc _ _ _ (by omega)).trans Hrow5.out)
        obtain ⟨VB, vd, rfl, _, _, _⟩ := own_slice hown7
        have Hown7 := Lib.hid hown7
        have hsw9 := Hb9.out.size
        have Hb7 : Hid (Below w.heap.size w w7) := Lib.hid (((Hbr.out.trans ((Hb9.out.trans (Hb5.out.mono hsw9)).mono hsr)).alloc (by omega) _).grown hg7 (by simp; omega) (fun b e => hob b e))
        refine hK.out _ _ ⟨cell_of_row _ _ 0 _ _ _ hrow7, cell_of_row _ _ 1 _ _ _ hrow7⟩ (fun hHeld => ?_)
        clear hK K hrow7 hown7 hg7 hat7 hob hP05
        try simp only [Act.put, List.getElem_toArray, List.getElem_cons_zero, List.getElem_cons_succ, List.setIfInBounds_toArray, List.set_cons_zero, List.set_cons_succ]
        refine wpAnyH_take (i := 9) (v := ?vva9) rfl (by kernel_rfl) (by kernel_rfl) (by kernel_rfl) (fun _ _ _ h => h) (Or.inl ⟨by rfl, ?hya9⟩) hHeld ?resta9; (case hya9 => (intro w hSw; (try dsimp only at hSw); go_simp; all_goals (with_reducible rfl))); simp only [Act.put, List.getElem_toArray, List.getElem_cons_zero, List.getElem_cons_succ, List.setIfInBounds_toArray, List.set_cons_zero, List.set_cons_succ]
        refine wpAnyH_done (by kernel_rfl) ?_ _
        clear hHeld
        go_wp2
        go_roundw
        case rel => exact ⟨k + 1, by go_num, by omega, by rw [Hnx.out]; exact Hown7.out, Hb7.out⟩
        case measure => simp [intOf]; omega
      · obtain rfl : k = n := by omega
        go_wp2
        go_ret2
        rw [Hres.out, if_pos trivial]
        refine ⟨_, rfl, ?_, Hbr.out⟩
        have := Hown.out
        rw [List.take_of_length_le (by rw [Hlen.out]; exact Nat.le_refl _)] at this
        rw [List.length_map, Hlen.out]
        exact this
  · go_wp2_with (first | (go_at_call 45; refine Hck.out.mono ?_; rintro e w1 ⟨rfl, hb1⟩) | fail)
    go_ret2
    rw [Hres.out, if_neg her]
    exact ⟨_, rfl, World.ownsRow_nil _ _ _ _, hb1⟩

end Go.Proofs.YtabcadpfhachoaaGreat

namespace Go.Proofs.YtabcadpfhachoaaGreat
open Go.RowKit Go.Shelf
set_option linter.unusedVariables false
set_option linter.unusedSimpArgs false

set_option maxHeartbeats 2000000 in
set_option maxRecDepth 100000 in
theorem joined_any (A : Option Addr) (n c : Nat) (l : List R4) (w : World) (hA : SlR w A n c l) (hn1 : n ≤ 1500) (hl : ∀ q ∈ l, q.l < q.r) :
    Calls Tryz.prog 31 #[.slice A n c] w (RegPost w (limP (canonP l))) := by
  have HC := Lib.hid (fun W (hW : Below w.heap.size w W) => canonical_any A n c l W (hA.below hW) hn1 hl)
  generalize canonP l = k at *
  clear hA hl
  by_cases hk : 120 < k.length
  · have e0 : limP k = ([], 1) := by unfold limP; rw [if_pos hk]
    rw [e0]
    clear e0
    go_enter Tryz.func31, Tryz.ntmps31
    go_wp2_with (first
      | (go_at_call 54; refine (HC.out _ (by repeat' (first | with_reducible exact Below.refl _ _ | with_reducible refine below_drewN ?_ _ | with_reducible refine Below.drew ?_ | with_reducible refine Below.alloc ?_ ?_ _ | with_reducible refine Below.setCell ?_ ?_ _ | with_reducible refine Below.trans ?_ (Below.mono (by with_reducible assumption) ?_) | (simp; done) | (simp; omega) | omega))).mono ?_; rintro e w2 ⟨v2, rfl, hown2, hb2⟩; have hr2 : w2.heap[w.heap.size]? = some (.cells #[.slice none 0 0] 34 (0, 0)) := (hb2.block _ (by simp)).trans (heap_alloc_new w _); have Hr2 := Lib.hid hr2; have hs2 : w.heap.size < w2.heap.size := (by have := hb2.size; simp at this; omega); obtain ⟨C, cc, rfl, -⟩ := SlR.of_own hown2; have Hb2 : Hid (Below w.heap.size w w2) := Lib.hid (show Below w.heap.size w w2 from (by have hbq := hb2; exact (by repeat' (first | with_reducible exact Below.refl _ _ | with_reducible assumption | with_reducible refine below_drewN ?_ _ | with_reducible refine Below.drew ?_ | with_reducible refine Below.alloc ?_ ?_ _ | with_reducible refine Below.setCell ?_ ?_ _ | with_reducible refine Below.trans ?_ (Below.mono (by with_reducible assumption) ?_) | with_reducible refine below_only ?_ (by with_reducible assumption) ?_ ?_ | (simp; done) | (simp; omega) | omega)))); clear hown2 hb2 hr2)
      | (go_at_call 63; refine (limited_big C k.length cc _ hk).mono ?_; rintro e w3 ⟨rfl, hb3⟩; have hr3 : w3.heap[w.heap.size]? = some (.cells #[.slice none 0 0] 34 (0, 0)) := (hb3.block _ hs2).trans Hr2.out; have cr3 := cell_of_row w3 w.heap.size 0 _ _ _ hr3; have fr3 := frozen_of_row w3 w.heap.size 0 _ _ hr3; have csame : (w3.setCell ⟨w.heap.size, 0, none⟩ (.slice none 0 0)).cell? ⟨w.heap.size, 0, none⟩ = some (.slice none 0 0) := (by rw [cell_of_row _ w.heap.size 0 _ _ _ (heap_setCell_same w3 w.heap.size 0 _ _ _ hr3)]; simp); have Hb3 := Lib.hid hb3; clear hb3 hr3)
      | fail)
    refine bodyPost_ret (v := .tuple #[.agg #[.slice none 0 0], .int .i64 1]) (by simp [results, Tryz.results31, go_sem, *]) rfl ?_
    exact ⟨_, rfl, World.ownsRow_nil _ _ _ _, (Hb2.out.trans (Hb3.out.mono (Nat.le_of_lt hs2))).setCell (Nat.le_refl _) _⟩
  · have e0 : limP k = (k, 0) := by unfold limP; rw [if_neg hk]
    rw [e0]
    clear e0
    have hk' : k.length ≤ 120 := by omega
    go_enter Tryz.func31, Tryz.ntmps31
    go_wp2_with (first
      | (go_at_call 54; refine (HC.out _ (by repeat' (first | with_reducible exact Below.refl _ _ | with_reducible refine below_drewN ?_ _ | with_reducible refine Below.drew ?_ | with_reducible refine Below.alloc ?_ ?_ _ | with_reducible refine Below.setCell ?_ ?_ _ | with_reducible refine Below.trans ?_ (Below.mono (by with_reducible assumption) ?_) | (simp; done) | (simp; omega) | omega))).mono ?_; rintro e w2 ⟨v2, rfl, hown2, hb2⟩; have hr2 : w2.heap[w.heap.size]? = some (.cells #[.slice none 0 0] 34 (0, 0)) := (hb2.block _ (by simp)).trans (heap_alloc_new w _); have Hr2 := Lib.hid hr2; have hs2 : w.heap.size < w2.heap.size := (by have := hb2.size; simp at this; omega); obtain ⟨C, cc, rfl, -⟩ := SlR.of_own hown2; have Hown2 := Lib.hid hown2; have Hb2 : Hid (Below w.heap.size w w2) := Lib.hid (show Below w.heap.size w w2 from (by have hbq := hb2; exact (by repeat' (first | with_reducible exact Below.refl _ _ | with_reducible assumption | with_reducible refine below_drewN ?_ _ | with_reducible refine Below.drew ?_ | with_reducible refine Below.alloc ?_ ?_ _ | with_reducible refine Below.setCell ?_ ?_ _ | with_reducible refine Below.trans ?_ (Below.mono (by with_reducible assumption) ?_) | with_reducible refine below_only ?_ (by with_reducible assumption) ?_ ?_ | (simp; done) | (simp; omega) | omega)))); clear hown2 hb2 hr2)
      | (go_at_call 63; refine (limited_ok C k.length cc _ hk').mono ?_; rintro e w3 ⟨rfl, hb3⟩; have hr3 : w3.heap[w.heap.size]? = some (.cells #[.slice none 0 0] 34 (0, 0)) := (hb3.block _ hs2).trans Hr2.out; have cr3 := cell_of_row w3 w.heap.size 0 _ _ _ hr3; have fr3 := frozen_of_row w3 w.heap.size 0 _ _ hr3; have csame : (w3.setCell ⟨w.heap.size, 0, none⟩ (.slice C k.length cc)).cell? ⟨w.heap.size, 0, none⟩ = some (.slice C k.length cc) := (by rw [cell_of_row _ w.heap.size 0 _ _ _ (heap_setCell_same w3 w.heap.size 0 _ _ _ hr3)]; simp); have Hown3 := Lib.hid (ownsRow_below Hown2.out hb3); have Hb3 := Lib.hid hb3; clear hb3 hr3)
      | fail)
    refine bodyPost_ret (v := .tuple #[.agg #[.slice C k.length cc], .int .i64 0]) (by simp [results, Tryz.results31, go_sem, *]) rfl ?_
    have hlow := own_base Hown3.out
    refine ⟨_, rfl, ?_, (Hb2.out.trans (Hb3.out.mono (Nat.le_of_lt hs2))).setCell (Nat.le_refl _) _⟩
    exact own_other (own_rebase Hown3.out (by simp)) (only_setCell (g := w.heap.size) (World.grownBy.refl _ _) (.inl rfl) _) (fun k hk e => by injection e with e; have := hlow k hk; simp at this; omega)

set_option maxHeartbeats 8000000 in
set_option maxRecDepth 100000 in
theorem commonL_any (A : Option Addr) (n c : Nat) (l : FL) (s : Int) (w : World) (hA : SlF w A n c l) (hn200 : n ≤ 1000) (hN : ((fcs l).flatMap Fc.rg).length ≤ 1500) :
    Calls Tryz.prog 20 #[.slice A n c, .int .i64 s] w (RegPost w (commonFP (fcs l) s)) := by
  obtain ⟨i0, hi, hz0, hz1, hz2⟩ := info_parts Tryz.infoRect
  have hlen : (fcs l).length = n := by rw [fcs, List.length_map]; exact hA.len
  have HA := Lib.hid hA
  have Hck := Lib.hid (fun W (hW : Below w.heap.size w W) => check_any A n c l W (hA.below hW))
  have Hres : Hid (commonFP (fcs l) s = if checkFP (fcs l) = 0 then limP (canonP (pickP (fcs l) s)) else ([], checkFP (fcs l))) := Lib.hid rfl
  have Hlen := Lib.hid hlen
  have Hpos := Lib.hid (pickP_pos (F := fcs l) (s := s))
  have Hpl := Lib.hid (fun k => Nat.le_trans (pickP_le (fcs l) s k) hN)
  generalize commonFP (fcs l) s = res at *
  generalize checkFP (fcs l) = er at *
  clear hA hlen hN
  go_enter Tryz.func20, Tryz.ntmps20
  by_cases her : er = 0
  · subst her
    have Hpos0 := Lib.hid (Hpos.out rfl)
    have Hr : Hid (res = limP (canonP (pickP (fcs l) s))) := Lib.hid (by rw [Hres.out, if_pos rfl])
    clear Hpos Hres
    go_upto_region 6 with (first
      | (go_at_call 44
         refine (Hck.out _ (by repeat' (first | with_reducible exact Below.refl _ _ | with_reducible refine below_drewN ?_ _ | with_reducible refine Below.drew ?_ | with_reducible refine Below.alloc ?_ ?_ _ | with_reducible refine Below.setCell ?_ ?_ _ | with_reducible refine Below.trans ?_ (Below.mono (by with_reducible assumption) ?_) | (simp; done) | (simp; omega) | omega))).mono ?_
         rintro e w1 ⟨rfl, hb1⟩
         have Hx : Hid (w1.heap[w.heap.size]? = some (.cells #[.slice none 0 0] 34 (0, 0))) := Lib.hid ((hb1.block _ (by simp)).trans (heap_alloc_new w _))
         have Hb1 : Hid (Below w.heap.size w w1) := Lib.hid (show Below w.heap.size w w1 from (by have hbq := hb1; exact (by repeat' (first | with_reducible exact Below.refl _ _ | with_reducible assumption | with_reducible refine below_drewN ?_ _ | with_reducible refine Below.drew ?_ | with_reducible refine Below.alloc ?_ ?_ _ | with_reducible refine Below.setCell ?_ ?_ _ | with_reducible refine Below.trans ?_ (Below.mono (by with_reducible assumption) ?_) | with_reducible refine below_only ?_ (by with_reducible assumption) ?_ ?_ | (simp; done) | (simp; omega) | omega))))
         have hs1 : w.heap.size < w1.heap.size := by have := hb1.size; simp at this; omega
         clear hb1)
      | fail)
    clear Hck
    go_loopw [7, 18] (fun v iv wr => ∃ k : Nat, iv = .int .i64 (k : Int) ∧ k ≤ n ∧ wr.ownsRow w1.heap.size 42 4 v (pickP ((fcs l).take k) s).length (rCells (pickP ((fcs l).take k) s)) ∧ Below w1.heap.size w1 wr) (fun _ iv _ => n - (intOf iv).toNat)
    case atStart => exact ⟨0, rfl, by omega, World.ownsRow_nil _ _ _ _, Below.refl _ _⟩
    case round =>
      obtain ⟨k, rfl, hkn, hown, hbr⟩ := hrel
      have Hbr := Lib.hid hbr
      have hsr := hbr.size
      have Hown := Lib.hid hown
      obtain ⟨VA, vc, hv, hS⟩ := SlR.of_own hown
      subst hv
      have HS := Lib.hid hS
      clear hbr hown hS
      by_cases hk : k < n
      · have hk' : (k : Int) < (n : Int) := by omega
        have hkl : k < l.length := by have := HA.out.len; omega
        obtain ⟨b, off, rfl, hb, c0, c1, hsl⟩ := ((HA.out.below Hb1.out).below Hbr.out).at k hkl
        have Hnx : Hid (pickP ((fcs l).take (k + 1)) s = if pickF s l[k].1 then pickP ((fcs l).take k) s ++ l[k].1.rg else pickP ((fcs l).take k) s) := Lib.hid (by
          rw [List.take_succ_eq_append_getElem (by rw [Hlen.out]; exact hk), pickP_snoc]
          simp [fcs])
        have Hpk : Hid (pickF s l[k].1 = (decide (0 ≤ s) && decide (bits BinOp.and IntKind.i64 l[k].1.set s = s))) := Lib.hid rfl
        have hle := Hpl.out (k + 1)
        have hle0 := Hpl.out k
        obtain ⟨P, hP⟩ : ∃ P, pickP ((fcs l).take k) s = P := ⟨_, rfl⟩
        obtain ⟨P', hP'⟩ : ∃ P, pickP ((fcs l).take (k + 1)) s = P := ⟨_, rfl⟩
        rw [hP] at HS Hown Hnx hle0 ⊢
        rw [hP'] at Hnx hle
        have HP' := Lib.hid hP'
        have Hrd := Lib.hid (hsl.lies.reads (size := 4) (by rw [rCells_len]))
        obtain ⟨z, hz⟩ : ∃ z, l[k].1.set = z := ⟨_, rfl⟩
        obtain ⟨D, hD⟩ : ∃ D, l[k].2.a = D := ⟨_, rfl⟩
        obtain ⟨rg, hrg⟩ : ∃ rg, l[k].1.rg = rg := ⟨_, rfl⟩
        obtain ⟨d, hd⟩ : ∃ d, l[k].2.c = d := ⟨_, rfl⟩
        obtain ⟨pk, hpk⟩ : ∃ pk, pickF s l[k].1 = pk := ⟨_, rfl⟩
        rw [hpk, hrg] at Hnx
        rw [hpk, hz] at Hpk
        rw [hD, hrg] at Hrd
        rw [hz] at c0
        rw [hD, hrg, hd] at c1
        clear hP hP' hz hD hrg hd hpk hsl
        have Hq : Hid (P' = if pk then P ++ rg else P) := Lib.hid Hnx.out
        obtain ⟨q, hq⟩ : ∃ q, rg.length = q := ⟨_, rfl⟩
        obtain ⟨pn, hpn⟩ : ∃ pn, P.length = pn := ⟨_, rfl⟩
        rw [hq] at c1 Hrd
        rw [hpn] at Hown HS ⊢
        have Hqn := Lib.hid hq
        have Hpn := Lib.hid hpn
        have hpq : pk = true → pn + q ≤ 1500 := fun h => by have := hle; rw [Hq.out, h, if_pos rfl, List.length_append] at this; omega
        have hpn5 : pn ≤ 1500 := by omega
        clear hq hpn
        by_cases h0 : 0 ≤ s
        · by_cases h1 : bits BinOp.and IntKind.i64 z s = s
          · have hpk : pk = true := by rw [Hpk.out]; simp [h0, h1]
            have hpq' := hpq hpk
            have Hq' : Hid (P' = P ++ rg) := Lib.hid (by rw [Hq.out, hpk, if_pos rfl])
            clear Hq hpk hpq Hpk
            go_wp2_with (first
              | (at_builtin
                 refine wpList_append_any _ rfl (.tmp 32) (.tmp 35) _ rfl w1.heap.size 42 i0 _ 4 32 Tryz.underlying32 hi hz0 hz1 hz2 rfl (by omega) _ pn (rCells P) rfl (World.ownsRow.alloc Hown.out _) wr.heap.size _ q d (rCells rg) rfl (Hrd.out.below ((Below.refl _ _).alloc (Nat.le_refl _) _)) (rCells_one rg) (by simp only [maxLen]; omega) (by omega) (by simp; omega) ?_
                 intro v6 w6 hown6 hg6 hat6
                 have hob := own_base Hown.out
                 obtain ⟨VB, vd, rfl, _, _, _⟩ := own_slice hown6
                 have Hown6 := Lib.hid hown6
                 have Hb6 : Hid (Below w1.heap.size w1 w6) := Lib.hid ((Hbr.out.alloc hsr _).grown hg6 (by simp; omega) (fun b e => hob b e))
                 clear hown6 hg6 hat6 hob)
              | fail)
            go_roundw
            case rel => exact ⟨k + 1, by go_num, by omega, by
              rw [HP'.out, Hq'.out, List.length_append, Hpn.out, Hqn.out, show rCells (P ++ rg) = rCells P ++ rCells rg by simp [rCells]]
              exact Hown6.out, Hb6.out⟩
            case measure => simp [intOf]; omega
          · have h1' : (bits BinOp.and IntKind.i64 z s == s) = false := by simpa using h1
            have Hq' : Hid (P' = P) := Lib.hid (by rw [Hq.out, Hpk.out]; simp [h1])
            clear Hq hpq Hpk
            go_wp2
            go_roundw
            case rel => exact ⟨k + 1, by go_num, by omega, by rw [HP'.out, Hq'.out, Hpn.out]; exact Hown.out.alloc _, Hbr.out.alloc hsr _⟩
            case measure => simp [intOf]; omega
        · have h0' : ¬ 0 ≤ s := h0
          have Hq' : Hid (P' = P) := Lib.hid (by rw [Hq.out, Hpk.out]; simp [h0])
          clear Hq hpq Hpk
          go_wp2
          go_roundw
          case rel => exact ⟨k + 1, by go_num, by omega, by rw [HP'.out, Hq'.out, Hpn.out]; exact Hown.out.alloc _, Hbr.out.alloc hsr _⟩
          case measure => simp [intOf]; omega
      · obtain rfl : k = n := by omega
        have htk : (fcs l).take k = fcs l := List.take_of_length_le (by rw [Hlen.out]; exact Nat.le_refl _)
        rw [htk] at HS Hown ⊢
        have Hle := Lib.hid (by have := Hpl.out k; rw [htk] at this; exact this)
        clear htk
        obtain ⟨P, hP⟩ : ∃ P, pickP (fcs l) s = P := ⟨_, rfl⟩
        rw [hP] at HS Hown Hle Hpos0 Hr ⊢
        clear hP
        have Hj := Lib.hid (joined_any VA P.length vc P wr HS.out Hle.out Hpos0.out)
        rw [← Hr.out] at Hj
        obtain ⟨cl, er⟩ := res
        have Hxr : Hid (wr.heap[w.heap.size]? = some (.cells #[.slice none 0 0] 34 (0, 0))) := Lib.hid ((Hbr.out.block _ hs1).trans Hx.out)
        have hwr : w.heap.size < wr.heap.size := by omega
        go_wp2_with (first
          | (go_at_call 31
             refine Hj.out.mono ?_
             rintro e w2 ⟨v2, rfl, hown2, hb2⟩
             obtain ⟨E, ec, rfl, _⟩ := SlR.of_own hown2
             have hx2 := (hb2.block _ hwr).trans Hxr.out
             have x0 := cell_of_row _ _ 0 _ _ _ hx2
             have f0 := frozen_of_row _ _ 0 _ _ hx2
             have csame : (w2.setCell ⟨w.heap.size, 0, none⟩ (.slice E cl.length ec)).cell? ⟨w.heap.size, 0, none⟩ = some (.slice E cl.length ec) := World.cell?_setCell_same' _ _ _ (by rw [x0]; rfl)
             have Hown2 := Lib.hid hown2
             have Hb2 := Lib.hid hb2
             clear hown2 hb2 hx2)
          | fail)
        refine bodyPost_ret (v := .tuple #[.agg #[.slice E cl.length ec], .int .i64 er]) (by simp [results, Tryz.results20, go_sem, *]) rfl ?_
        exact ⟨_, rfl, own_rebase (ownsRow_setCell_below Hown2.out (a := ⟨w.heap.size, 0, none⟩) hwr _) (by omega), ((Hb1.out.trans (Hbr.out.mono (by omega))).trans (Hb2.out.mono (by omega))).setCell (by show w.heap.size ≤ w.heap.size; omega) _⟩
  · go_wp2_with (first
      | (go_at_call 44
         refine (Hck.out _ (by repeat' (first | with_reducible exact Below.refl _ _ | with_reducible refine below_drewN ?_ _ | with_reducible refine Below.drew ?_ | with_reducible refine Below.alloc ?_ ?_ _ | with_reducible refine Below.setCell ?_ ?_ _ | with_reducible refine Below.trans ?_ (Below.mono (by with_reducible assumption) ?_) | (simp; done) | (simp; omega) | omega))).mono ?_
         rintro e w1 ⟨rfl, hb1⟩
         have hx1 : w1.heap[w.heap.size]? = some (.cells #[.slice none 0 0] 34 (0, 0)) := (hb1.block _ (by simp)).trans (heap_alloc_new w _)
         have x0 := cell_of_row _ _ 0 _ _ _ hx1
         have f0 := frozen_of_row _ _ 0 _ _ hx1
         have csame : (w1.setCell ⟨w.heap.size, 0, none⟩ (.slice none 0 0)).cell? ⟨w.heap.size, 0, none⟩ = some (.slice none 0 0) := World.cell?_setCell_same' _ _ _ (by rw [x0]; rfl)
         have Hb1 : Hid (Below w.heap.size w w1) := Lib.hid (show Below w.heap.size w w1 from (by have hbq := hb1; exact (by repeat' (first | with_reducible exact Below.refl _ _ | with_reducible assumption | with_reducible refine below_drewN ?_ _ | with_reducible refine Below.drew ?_ | with_reducible refine Below.alloc ?_ ?_ _ | with_reducible refine Below.setCell ?_ ?_ _ | with_reducible refine Below.trans ?_ (Below.mono (by with_reducible assumption) ?_) | with_reducible refine below_only ?_ (by with_reducible assumption) ?_ ?_ | (simp; done) | (simp; omega) | omega))))
         clear hb1 hx1)
      | fail)
    refine bodyPost_ret (v := .tuple #[.agg #[.slice none 0 0], .int .i64 er]) (by simp [results, Tryz.results20, go_sem, *]) rfl ?_
    rw [Hres.out, if_neg her]
    exact ⟨_, rfl, World.ownsRow_nil _ _ _ _, Hb1.out.setCell (by show w.heap.size ≤ w.heap.size; omega) _⟩

/-- The rectangles of the faces whose set has all bits of another one. -/
def pickL (F : List Fc) (s : Int) : List (List R4) := (F.filter fun f => decide (bits BinOp.and IntKind.i64 f.set s = s)).map Fc.rg
theorem pickL_snoc (F : List Fc) (f : Fc) (s : Int) : pickL (F ++ [f]) s = if bits BinOp.and IntKind.i64 f.set s = s then pickL F s ++ [f.rg] else pickL F s := by
  unfold pickL
  rw [List.filter_append]
  by_cases h : bits BinOp.and IntKind.i64 f.set s = s <;> simp [h]
theorem pickL_flat (F : List Fc) (s : Int) (h0 : 0 ≤ s) : (pickL F s).flatten = pickP F s := by
  unfold pickL pickP
  have : pickF s = fun f => decide (bits BinOp.and IntKind.i64 f.set s = s) := by funext f; unfold pickF; simp [h0]
  rw [this, ← List.flatMap_def]
theorem and_i64w (a b : Nat) (ha : a < 2 ^ 62) (hb : b < 9223372036854775808) : bits .and .i64 (a : Int) (b : Int) = ((a &&& b : Nat) : Int) := by
  have hx : a &&& b ≤ a := Nat.and_le_left
  have h62 : (2 : Nat) ^ 62 = 4611686018427387904 := by decide
  show IntKind.i64.wrap ((BitVec.ofInt 64 (a : Int) &&& BitVec.ofInt 64 (b : Int)).toNat : Int) = _
  rw [BitVec.toNat_and, ofInt_nat64 a (by omega), ofInt_nat64 b (by omega)]
  exact wrap_nat63 _ (by omega)
theorem common_far {F : List Fc} {s : Int} (hF : checkFP F = 0) (hw : s < 9223372036854775808) (hs : s < 0 ∨ 4096 ≤ s) : commonFP F s = ([], 0) := by
  unfold commonFP
  rw [if_pos hF]
  have hp : pickP F s = [] := by
    unfold pickP
    rw [List.filter_eq_nil_iff.2]
    · rfl
    intro f hf hp
    unfold pickF at hp
    rw [Bool.and_eq_true, decide_eq_true_iff, decide_eq_true_iff] at hp
    obtain ⟨_, _, ha⟩ := check_ok hF
    obtain ⟨k, hk, rfl⟩ := List.getElem_of_mem hf
    have h1 := List.all_eq_true.1 ha k (List.mem_range.2 hk)
    unfold okAt at h1
    have hg : F.getD k ⟨0, []⟩ = F[k] := by simp [List.getD, List.getElem?_eq_getElem hk]
    rw [hg, Bool.and_eq_true, decide_eq_true_iff, decide_eq_true_iff] at h1
    have hl : ∀ k, k ≤ F.length → 0 ≤ lastOf F k := by
      intro k hk
      cases k with
      | zero => exact Int.le_refl 0
      | succ k =>
        have h2 := List.all_eq_true.1 ha k (List.mem_range.2 (by omega))
        unfold okAt at h2
        rw [Bool.and_eq_true, decide_eq_true_iff, decide_eq_true_iff] at h2
        show 0 ≤ (F.getD k ⟨0, []⟩).set
        have : ∀ j, j ≤ k → 0 ≤ lastOf F j := by
          intro j
          induction j with
          | zero => intro _; exact Int.le_refl 0
          | succ j ih =>
            intro hj
            have h3 := List.all_eq_true.1 ha j (List.mem_range.2 (by omega))
            unfold okAt at h3
            rw [Bool.and_eq_true, decide_eq_true_iff, decide_eq_true_iff] at h3
            have h4 := ih (by omega)
            show 0 ≤ (F.getD j ⟨0, []⟩).set
            omega
        have := this k (Nat.le_refl _)
        omega
    have h0 := hl k (by omega)
    obtain ⟨a, ha2⟩ := Int.eq_ofNat_of_zero_le (show 0 ≤ F[k].set by omega)
    obtain ⟨b, hb2⟩ := Int.eq_ofNat_of_zero_le hp.1
    have h62 : (2 : Nat) ^ 62 = 4611686018427387904 := by decide
    have h7 := and_i64w a b (by omega) (by omega)
    rw [← ha2, ← hb2, hp.2] at h7
    have h8 : a &&& b ≤ a := Nat.and_le_left
    omega
  rw [hp, show canonP ([] : List R4) = [] from by rw [canonP_comb _ (fun q hq => by cases hq)]; decide]
  rfl
set_option maxHeartbeats 8000000 in
set_option maxRecDepth 100000 in
theorem commonR_any (A : Option Addr) (n c : Nat) (l : FL) (s : Int) (w : World) (hA : SlF w A n c l) (hn200 : n ≤ 1000) (hs63 : s < 9223372036854775808) (hN : checkFP (fcs l) = 0 → ∀ k, (chainP orB [] (pickL ((fcs l).take k) s)).length ≤ 50000) :
    Calls Tryz.prog 21 #[.slice A n c, .int .i64 s] w (RegPost w (commonFP (fcs l) s)) := by
  have hlen : (fcs l).length = n := by rw [fcs, List.length_map]; exact hA.len
  have HA := Lib.hid hA
  have Hck := Lib.hid (fun W (hW : Below w.heap.size w W) => checkR_any A n c l W (hA.below hW))
  have Hlen := Lib.hid hlen
  have Hbad : Hid (checkFP (fcs l) ≠ 0 → commonFP (fcs l) s = ([], checkFP (fcs l))) := Lib.hid (fun h => by unfold commonFP; rw [if_neg h])
  have Hfar : Hid (checkFP (fcs l) = 0 → (s < 0 ∨ 4096 ≤ s) → commonFP (fcs l) s = ([], 0)) := Lib.hid (fun h h2 => common_far h hs63 h2)
  have Hgood : Hid (checkFP (fcs l) = 0 → 0 ≤ s → commonFP (fcs l) s = limP (chainP orB [] (pickL (fcs l) s))) := Lib.hid (fun h h0 => by
    unfold commonFP
    rw [if_pos h, chain_union _ (by rw [pickL_flat _ _ h0]; exact pickP_pos h s), pickL_flat _ _ h0])
  have Hrl : Hid (checkFP (fcs l) = 0 → ∀ f ∈ fcs l, f.rg.length ≤ 120) := Lib.hid (fun h f hf => (valid_parts (List.all_eq_true.1 (check_ok h).2.1 f hf)).1)
  have HN := Lib.hid hN
  generalize commonFP (fcs l) s = res at *
  generalize checkFP (fcs l) = er at *
  clear hA hlen hN
  go_enter Tryz.func21, Tryz.ntmps21
  by_cases her : er = 0
  · subst her
    have HN0 := Lib.hid (HN.out rfl)
    have Hrl0 := Lib.hid (Hrl.out rfl)
    have Hfar0 := Lib.hid (Hfar.out rfl)
    have Hgood0 := Lib.hid (Hgood.out rfl)
    clear HN Hrl Hbad Hfar Hgood
    by_cases hfar : s < 0 ∨ 4096 ≤ s
    · have Hr := Lib.hid (Hfar0.out hfar)
      have hcond : (decide (s < 0) || decide (4096 ≤ s)) = true := by simpa using hfar
      rcases hfar with h1 | h1
      · go_wp2_with (first
          | (go_at_call 45
             refine (Hck.out _ (by repeat' (first | with_reducible exact Below.refl _ _ | with_reducible refine below_drewN ?_ _ | with_reducible refine Below.drew ?_ | with_reducible refine Below.alloc ?_ ?_ _ | with_reducible refine Below.setCell ?_ ?_ _ | with_reducible refine Below.trans ?_ (Below.mono (by with_reducible assumption) ?_) | (simp; done) | (simp; omega) | omega))).mono ?_
             rintro e w1 ⟨rfl, hb1⟩
             have hx1 : w1.heap[w.heap.size]? = some (.cells #[.slice none 0 0] 34 (0, 0)) := (hb1.block _ (by simp)).trans (heap_alloc_new w _)
             have x0 := cell_of_row _ _ 0 _ _ _ hx1
             have f0 := frozen_of_row _ _ 0 _ _ hx1
             have csame : (w1.setCell ⟨w.heap.size, 0, none⟩ (.slice none 0 0)).cell? ⟨w.heap.size, 0, none⟩ = some (.slice none 0 0) := World.cell?_setCell_same' _ _ _ (by rw [x0]; rfl)
             have Hb1 : Hid (Below w.heap.size w w1) := Lib.hid (show Below w.heap.size w w1 from (by have hbq := hb1; exact (by repeat' (first | with_reducible exact Below.refl _ _ | with_reducible assumption | with_reducible refine below_drewN ?_ _ | with_reducible refine Below.drew ?_ | with_reducible refine Below.alloc ?_ ?_ _ | with_reducible refine Below.setCell ?_ ?_ _ | with_reducible refine Below.trans ?_ (Below.mono (by with_reducible assumption) ?_) | with_reducible refine below_only ?_ (by with_reducible assumption) ?_ ?_ | (simp; done) | (simp; omega) | omega))))
             clear hb1 hx1)
          | fail)
        refine bodyPost_ret (v := .tuple #[.agg #[.slice none 0 0], .int .i64 0]) (by simp [results, Tryz.results21, go_sem, *]) rfl ?_
        rw [Hr.out]
        exact ⟨_, rfl, World.ownsRow_nil _ _ _ _, Hb1.out.setCell (by show w.heap.size ≤ w.heap.size; omega) _⟩
      · have h0 : ¬ s < 0 := by omega
        go_wp2_with (first
          | (go_at_call 45
             refine (Hck.out _ (by repeat' (first | with_reducible exact Below.refl _ _ | with_reducible refine below_drewN ?_ _ | with_reducible refine Below.drew ?_ | with_reducible refine Below.alloc ?_ ?_ _ | with_reducible refine Below.setCell ?_ ?_ _ | with_reducible refine Below.trans ?_ (Below.mono (by with_reducible assumption) ?_) | (simp; done) | (simp; omega) | omega))).mono ?_
             rintro e w1 ⟨rfl, hb1⟩
             have hx1 : w1.heap[w.heap.size]? = some (.cells #[.slice none 0 0] 34 (0, 0)) := (hb1.block _ (by simp)).trans (heap_alloc_new w _)
             have x0 := cell_of_row _ _ 0 _ _ _ hx1
             have f0 := frozen_of_row _ _ 0 _ _ hx1
             have csame : (w1.setCell ⟨w.heap.size, 0, none⟩ (.slice none 0 0)).cell? ⟨w.heap.size, 0, none⟩ = some (.slice none 0 0) := World.cell?_setCell_same' _ _ _ (by rw [x0]; rfl)
             have Hb1 : Hid (Below w.heap.size w w1) := Lib.hid (show Below w.heap.size w w1 from (by have hbq := hb1; exact (by repeat' (first | with_reducible exact Below.refl _ _ | with_reducible assumption | with_reducible refine below_drewN ?_ _ | with_reducible refine Below.drew ?_ | with_reducible refine Below.alloc ?_ ?_ _ | with_reducible refine Below.setCell ?_ ?_ _ | with_reducible refine Below.trans ?_ (Below.mono (by with_reducible assumption) ?_) | with_reducible refine below_only ?_ (by with_reducible assumption) ?_ ?_ | (simp; done) | (simp; omega) | omega))))
             clear hb1 hx1)
          | fail)
        refine bodyPost_ret (v := .tuple #[.agg #[.slice none 0 0], .int .i64 0]) (by simp [results, Tryz.results21, go_sem, *]) rfl ?_
        rw [Hr.out]
        exact ⟨_, rfl, World.ownsRow_nil _ _ _ _, Hb1.out.setCell (by show w.heap.size ≤ w.heap.size; omega) _⟩
    · have h0 : ¬ s < 0 := by omega
      have h4 : ¬ 4096 ≤ s := by omega
      have Hr := Lib.hid (Hgood0.out (by omega))
      clear Hgood0 Hfar0 hfar
      go_upto_region 8 with (first
        | (go_at_call 45
           refine (Hck.out _ (by repeat' (first | with_reducible exact Below.refl _ _ | with_reducible refine below_drewN ?_ _ | with_reducible refine Below.drew ?_ | with_reducible refine Below.alloc ?_ ?_ _ | with_reducible refine Below.setCell ?_ ?_ _ | with_reducible refine Below.trans ?_ (Below.mono (by with_reducible assumption) ?_) | (simp; done) | (simp; omega) | omega))).mono ?_
           rintro e w1 ⟨rfl, hb1⟩
           have Hx : Hid (w1.heap[w.heap.size]? = some (.cells #[.slice none 0 0] 34 (0, 0))) := Lib.hid ((hb1.block _ (by simp)).trans (heap_alloc_new w _))
           have Hb1 : Hid (Below w.heap.size w w1) := Lib.hid (show Below w.heap.size w w1 from (by have hbq := hb1; exact (by repeat' (first | with_reducible exact Below.refl _ _ | with_reducible assumption | with_reducible refine below_drewN ?_ _ | with_reducible refine Below.drew ?_ | with_reducible refine Below.alloc ?_ ?_ _ | with_reducible refine Below.setCell ?_ ?_ _ | with_reducible refine Below.trans ?_ (Below.mono (by with_reducible assumption) ?_) | with_reducible refine below_only ?_ (by with_reducible assumption) ?_ ?_ | (simp; done) | (simp; omega) | omega))))
           have hs1 : w.heap.size < w1.heap.size := by have := hb1.size; simp at this; omega
           clear hb1)
        | fail)
      clear Hck
      go_loopw [7, 25] (fun v iv wr => ∃ k : Nat, iv = .int .i64 (k : Int) ∧ k ≤ n ∧ wr.ownsRow w1.heap.size 42 4 v (chainP orB [] (pickL ((fcs l).take k) s)).length (rCells (chainP orB [] (pickL ((fcs l).take k) s))) ∧ Below w1.heap.size w1 wr) (fun _ iv _ => n - (intOf iv).toNat)
      case atStart => exact ⟨0, rfl, by omega, World.ownsRow_nil _ _ _ _, Below.refl _ _⟩
      case round =>
        obtain ⟨k, rfl, hkn, hown, hbr⟩ := hrel
        have Hbr := Lib.hid hbr
        have hsr := hbr.size
        have Hown := Lib.hid hown
        obtain ⟨VA, vc, hv, hS⟩ := SlR.of_own hown
        subst hv
        have HS := Lib.hid hS
        clear hbr hown hS
        by_cases hk : k < n
        · have hk' : (k : Int) < (n : Int) := by omega
          have hkl : k < l.length := by have := HA.out.len; omega
          obtain ⟨b, off, rfl, hb, d0, d1, hsl⟩ := ((HA.out.below Hb1.out).below Hbr.out).at k hkl
          have Hnx : Hid (pickL ((fcs l).take (k + 1)) s = if bits BinOp.and IntKind.i64 l[k].1.set s = s then pickL ((fcs l).take k) s ++ [l[k].1.rg] else pickL ((fcs l).take k) s) := Lib.hid (by
            rw [List.take_succ_eq_append_getElem (by rw [Hlen.out]; exact hk), pickL_snoc]
            simp [fcs])
          have hrl := Hrl0.out l[k].1 (List.mem_map.2 ⟨l[k], List.getElem_mem hkl, rfl⟩)
          have hle := HN0.out k
          obtain ⟨P, hP⟩ : ∃ P, pickL ((fcs l).take k) s = P := ⟨_, rfl⟩
          obtain ⟨P', hP'⟩ : ∃ P, pickL ((fcs l).take (k + 1)) s = P := ⟨_, rfl⟩
          rw [hP] at HS Hown Hnx hle ⊢
          rw [hP'] at Hnx
          have HP' := Lib.hid hP'
          obtain ⟨z, hz⟩ : ∃ z, l[k].1.set = z := ⟨_, rfl⟩
          obtain ⟨D, hD⟩ : ∃ D, l[k].2.a = D := ⟨_, rfl⟩
          obtain ⟨rg, hrg⟩ : ∃ rg, l[k].1.rg = rg := ⟨_, rfl⟩
          obtain ⟨d, hd⟩ : ∃ d, l[k].2.c = d := ⟨_, rfl⟩
          rw [hz, hrg] at Hnx
          rw [hz] at d0
          rw [hrg] at hrl
          rw [hD, hrg, hd] at d1 hsl
          obtain ⟨rn, hrn⟩ : ∃ rn, rg.length = rn := ⟨_, rfl⟩
          rw [hrn] at d1 hsl hrl
          have Hsl := Lib.hid hsl
          obtain ⟨un, hun⟩ : ∃ un, (chainP orB [] P).length = un := ⟨_, rfl⟩
          rw [hun] at HS Hown hle ⊢
          have Hun := Lib.hid hun
          obtain ⟨U, hU⟩ : ∃ U, chainP orB [] P = U := ⟨_, rfl⟩
          rw [hU] at HS Hown Hun
          have HU := Lib.hid hU
          clear hP hP' hz hD hrg hd hrn hun hU hsl
          by_cases h1 : bits BinOp.and IntKind.i64 z s = s
          · have Hq : Hid (P' = P ++ [rg]) := Lib.hid (by rw [Hnx.out, if_pos h1])
            have Hc := Lib.hid (fun W (hW : Below wr.heap.size wr W) => combineR_any VA D un vc rn d U rg 1 W (HS.out.below hW) (Hsl.out.below hW) (by omega))
            rw [howR1] at Hc
            clear Hnx
            go_wp2_with (first
              | (go_at_call 38
                 refine (Hc.out _ ((Below.refl _ _).alloc (Nat.le_refl _) _)).mono ?_
                 rintro e w5 ⟨v5, rfl, hown5, hb5⟩
                 obtain ⟨E, ec, rfl, _, _, _⟩ := own_slice hown5
                 have Hown5 := Lib.hid hown5
                 have Hb5 : Hid (Below wr.heap.size wr w5) := Lib.hid (show Below wr.heap.size wr w5 from (by have hbq := hb5; exact (by repeat' (first | with_reducible exact Below.refl _ _ | with_reducible assumption | with_reducible refine below_drewN ?_ _ | with_reducible refine Below.drew ?_ | with_reducible refine Below.alloc ?_ ?_ _ | with_reducible refine Below.setCell ?_ ?_ _ | with_reducible refine Below.trans ?_ (Below.mono (by with_reducible assumption) ?_) | with_reducible refine below_only ?_ (by with_reducible assumption) ?_ ?_ | (simp; done) | (simp; omega) | omega))))
                 clear hown5 hb5)
              | fail)
            go_roundw
            case rel => exact ⟨k + 1, by go_num, by omega, by
              rw [HP'.out, Hq.out, chainP_snoc, HU.out]
              exact own_rebase Hown5.out (by simp; omega), Hbr.out.trans (Hb5.out.mono hsr)⟩
            case measure => simp [intOf]; omega
          · have h1' : (bits BinOp.and IntKind.i64 z s == s) = false := by simpa using h1
            have Hq : Hid (P' = P) := Lib.hid (by rw [Hnx.out, if_neg h1])
            clear Hnx
            go_wp2
            go_roundw
            case rel => exact ⟨k + 1, by go_num, by omega, by rw [HP'.out, Hq.out, HU.out, Hun.out]; exact Hown.out.alloc _, Hbr.out.alloc hsr _⟩
            case measure => simp [intOf]; omega
        · obtain rfl : k = n := by omega
          have htk : (fcs l).take k = fcs l := List.take_of_length_le (by rw [Hlen.out]; exact Nat.le_refl _)
          rw [htk] at HS Hown ⊢
          clear htk
          obtain ⟨U, hU⟩ : ∃ U, chainP orB [] (pickL (fcs l) s) = U := ⟨_, rfl⟩
          rw [hU] at HS Hown Hr ⊢
          clear hU
          have Hxr : Hid (wr.heap[w.heap.size]? = some (.cells #[.slice none 0 0] 34 (0, 0))) := Lib.hid ((Hbr.out.block _ hs1).trans Hx.out)
          have hwr : w.heap.size < wr.heap.size := by omega
          obtain ⟨un, hun⟩ : ∃ un, U.length = un := ⟨_, rfl⟩
          rw [hun] at HS Hown ⊢
          have Hun := Lib.hid hun
          by_cases h120 : 120 < un
          · have Hr2 : Hid (res = ([], 1)) := Lib.hid (by rw [Hr.out]; unfold limP; rw [if_pos (by omega)])
            clear hun
            go_wp2_with (first
              | (go_at_call 39
                 refine (boundR_big VA un vc wr h120).mono ?_
                 rintro e w2 ⟨rfl, hb2⟩
                 have hx2 := (hb2.block _ hwr).trans Hxr.out
                 have x0 := cell_of_row _ _ 0 _ _ _ hx2
                 have f0 := frozen_of_row _ _ 0 _ _ hx2
                 have csame : (w2.setCell ⟨w.heap.size, 0, none⟩ (.slice none 0 0)).cell? ⟨w.heap.size, 0, none⟩ = some (.slice none 0 0) := World.cell?_setCell_same' _ _ _ (by rw [x0]; rfl)
                 have Hb2 := Lib.hid hb2
                 clear hb2 hx2)
              | fail)
            refine bodyPost_ret (v := .tuple #[.agg #[.slice none 0 0], .int .i64 1]) (by simp [results, Tryz.results21, go_sem, *]) rfl ?_
            rw [Hr2.out]
            exact ⟨_, rfl, World.ownsRow_nil _ _ _ _, ((Hb1.out.trans (Hbr.out.mono (by omega))).trans (Hb2.out.mono (by omega))).setCell (by show w.heap.size ≤ w.heap.size; omega) _⟩
          · have Hr2 : Hid (res = (U, 0)) := Lib.hid (by rw [Hr.out]; unfold limP; rw [if_neg (by omega)])
            clear hun
            go_wp2_with (first
              | (go_at_call 39
                 refine (boundR_ok VA un vc wr (by omega)).mono ?_
                 rintro e w2 ⟨rfl, hb2⟩
                 have hx2 := (hb2.block _ hwr).trans Hxr.out
                 have x0 := cell_of_row _ _ 0 _ _ _ hx2
                 have f0 := frozen_of_row _ _ 0 _ _ hx2
                 have csame : (w2.setCell ⟨w.heap.size, 0, none⟩ (.slice VA un vc)).cell? ⟨w.heap.size, 0, none⟩ = some (.slice VA un vc) := World.cell?_setCell_same' _ _ _ (by rw [x0]; rfl)
                 have Hown2 := Lib.hid (ownsRow_below Hown.out hb2)
                 have Hb2 := Lib.hid hb2
                 clear hb2 hx2)
              | fail)
            refine bodyPost_ret (v := .tuple #[.agg #[.slice VA un vc], .int .i64 0]) (by simp [results, Tryz.results21, go_sem, *]) rfl ?_
            rw [Hr2.out]
            exact ⟨_, rfl, by rw [Hun.out]; exact own_rebase (ownsRow_setCell_below Hown2.out (a := ⟨w.heap.size, 0, none⟩) hs1 _) (by omega), ((Hb1.out.trans (Hbr.out.mono (by omega))).trans (Hb2.out.mono (by omega))).setCell (by show w.heap.size ≤ w.heap.size; omega) _⟩
  · have Hr := Lib.hid (Hbad.out her)
    clear HN Hrl Hbad Hfar Hgood
    go_wp2_with (first
      | (go_at_call 45
         refine (Hck.out _ (by repeat' (first | with_reducible exact Below.refl _ _ | with_reducible refine below_drewN ?_ _ | with_reducible refine Below.drew ?_ | with_reducible refine Below.alloc ?_ ?_ _ | with_reducible refine Below.setCell ?_ ?_ _ | with_reducible refine Below.trans ?_ (Below.mono (by with_reducible assumption) ?_) | (simp; done) | (simp; omega) | omega))).mono ?_
         rintro e w1 ⟨rfl, hb1⟩
         have hx1 : w1.heap[w.heap.size]? = some (.cells #[.slice none 0 0] 34 (0, 0)) := (hb1.block _ (by simp)).trans (heap_alloc_new w _)
         have x0 := cell_of_row _ _ 0 _ _ _ hx1
         have f0 := frozen_of_row _ _ 0 _ _ hx1
         have csame : (w1.setCell ⟨w.heap.size, 0, none⟩ (.slice none 0 0)).cell? ⟨w.heap.size, 0, none⟩ = some (.slice none 0 0) := World.cell?_setCell_same' _ _ _ (by rw [x0]; rfl)
         have Hb1 : Hid (Below w.heap.size w w1) := Lib.hid (show Below w.heap.size w w1 from (by have hbq := hb1; exact (by repeat' (first | with_reducible exact Below.refl _ _ | with_reducible assumption | with_reducible refine below_drewN ?_ _ | with_reducible refine Below.drew ?_ | with_reducible refine Below.alloc ?_ ?_ _ | with_reducible refine Below.setCell ?_ ?_ _ | with_reducible refine Below.trans ?_ (Below.mono (by with_reducible assumption) ?_) | with_reducible refine below_only ?_ (by with_reducible assumption) ?_ ?_ | (simp; done) | (simp; omega) | omega))))
         clear hb1 hx1)
      | fail)
    refine bodyPost_ret (v := .tuple #[.agg #[.slice none 0 0], .int .i64 er]) (by simp [results, Tryz.results21, go_sem, *]) rfl ?_
    rw [Hr.out]
    exact ⟨_, rfl, World.ownsRow_nil _ _ _ _, Hb1.out.setCell (by show w.heap.size ≤ w.heap.size; omega) _⟩
end Go.Proofs.YtabcadpfhachoaaGreat

namespace Go.Proofs.YtabcadpfhachoaaGreat
open Go.RowKit Go.Shelf
set_option linter.unusedVariables false
set_option linter.unusedSimpArgs false
set_option maxHeartbeats 800000 in
set_option maxRecDepth 100000 in
theorem disjointR_any (A : Option Addr) (n c : Nat) (l : RL) (w : World) (hA : SlG w A n c l) :
    Calls Tryz.prog 18 #[.slice A n c] w (DisjPost w (rgs l)) := by
  have HA := Lib.hid hA
  have Hlen : Hid ((rgs l).length = n) := Lib.hid (by rw [rgs_len]; exact hA.len)
  have Hrg := Lib.hid (validL_any A n c l w hA)
  have Hdi : Hid (∀ i k b e, DisjIs (rgs l) i k b e ↔ (e = regsP (rgs l) ∧ ((regsP (rgs l) ≠ 0 ∧ i = 0 ∧ k = 0 ∧ b = false) ∨ (regsP (rgs l) = 0 ∧ i = 0 ∧ k = 0 ∧ b = false ∧ ∀ (x y : Nat), x < y → y < n → meetsP ((rgs l).getD x []) ((rgs l).getD y []) = false) ∨
    (regsP (rgs l) = 0 ∧ ∃ x y : Nat, i = (x : Int) ∧ k = (y : Int) ∧ b = true ∧ x < y ∧ y < n ∧ meetsP ((rgs l).getD x []) ((rgs l).getD y []) = true ∧ (∀ x' y' : Nat, x' < x → x' < y' → y' < n → meetsP ((rgs l).getD x' []) ((rgs l).getD y' []) = false) ∧ ∀ y' : Nat, x < y' → y' < y → meetsP ((rgs l).getD x []) ((rgs l).getD y' []) = false)))) := Lib.hid (fun i k b e => by unfold DisjIs; rw [Hlen.out])
  have H60 := Lib.hid (fun h => (regs_ok (l := rgs l) h).1)
  rw [Hlen.out] at H60
  generalize regsP (rgs l) = er at *
  clear hA
  go_enter Tryz.func18, Tryz.ntmps18
  by_cases her : er = 0
  · subst her
    have hn60 := H60.out rfl
    go_upto_region 5 with (first
      | (go_at_call 40
         refine Hrg.out.mono ?_
         rintro e w1 ⟨rfl, hb1⟩
         have Hb1 := Lib.hid hb1
         have hs1 := hb1.size
         clear hb1)
      | fail)
    clear Hrg H60
    go_loopw [16] (fun iv wr => ∃ x : Nat, iv = .int .i64 (x : Int) ∧ x ≤ n ∧ Hid (∀ x' y' : Nat, x' < x → x' < y' → y' < n → meetsP ((rgs l).getD x' []) ((rgs l).getD y' []) = false) ∧ Below w.heap.size w wr) (fun iv _ => n - (intOf iv).toNat)
    case atStart => exact ⟨0, rfl, by omega, Lib.hid (fun _ _ h => by omega), Hb1.out⟩
    case round =>
      obtain ⟨x, rfl, hxn, Hno, hbx⟩ := hrel
      have Hbx := Lib.hid hbx
      have hsx := hbx.size
      clear hbx
      obtain ⟨wo, rfl⟩ : ∃ wo : World, wo = wr := ⟨_, rfl⟩
      by_cases hxl : x < n
      · have hxl' : (x : Int) < (n : Int) := by omega
        have hxL : x < l.length := by have := HA.out.len; omega
        obtain ⟨b, off, rfl, hb, c0, hsl⟩ := (HA.out.below Hbx.out).at x hxL
        have hgx : (rgs l).getD x [] = l[x].1 := by simp [rgs, List.getD, List.getElem?_eq_getElem hxL]
        have Hgx := Lib.hid hgx
        obtain ⟨a, ha⟩ : ∃ a, l[x].1 = a := ⟨_, rfl⟩
        obtain ⟨D, hD⟩ : ∃ D, l[x].2.a = D := ⟨_, rfl⟩
        obtain ⟨d, hd⟩ : ∃ d, l[x].2.c = d := ⟨_, rfl⟩
        rw [ha, hD, hd] at c0 hsl
        rw [ha] at Hgx
        obtain ⟨q, hq⟩ : ∃ q, a.length = q := ⟨_, rfl⟩
        rw [hq] at c0 hsl
        have Hsl := Lib.hid hsl
        clear hgx ha hD hd hq hsl
        have ex : IntKind.i64.wrap ((x : Int) + 1) = (x : Int) + 1 := IntWalk.i64_in _ (by omega)
        have ex' : wrap64 ((x : Int) + 1) = (x : Int) + 1 := IntWalk.wrap64_in _ (by omega)
        go_upto_region 8 with fail
        have Hb8 : Hid (Below w.heap.size w wo) := Lib.hid Hbx.out
        have Hs8 : Hid (SlR wo D q d a) := Lib.hid Hsl.out
        obtain ⟨w8, hw8⟩ : ∃ w8 : World, w8 = wo := ⟨_, rfl⟩
        subst hw8
        have hsw8 := Hb8.out.size
        go_loopw [8] (fun kv wr => ∃ y : Nat, kv = .int .i64 (y : Int) ∧ x < y ∧ y ≤ n ∧ Hid (∀ y' : Nat, x < y' → y' < y → meetsP ((rgs l).getD x []) ((rgs l).getD y' []) = false) ∧ Below w8.heap.size w8 wr) (fun kv _ => n - (intOf kv).toNat)
        case atStart => exact ⟨x + 1, by go_num, by omega, by omega, Lib.hid (fun _ h1 h2 => by omega), Below.refl _ _⟩
        case round =>
          obtain ⟨y, rfl, hxy, hyn, Hny, hby⟩ := hrel
          have Hby := Lib.hid hby
          have hsy := hby.size
          clear hby
          by_cases hyl : y < n
          · have hyl' : (y : Int) < (n : Int) := by omega
            have hyL : y < l.length := by have := HA.out.len; omega
            obtain ⟨b2, off2, e2, hb2, d0, hsl2⟩ := ((HA.out.below Hb8.out).below Hby.out).at y hyL
            injection e2 with e2
            injection e2 with e2 e3 _
            subst e2 e3
            have hgy : (rgs l).getD y [] = l[y].1 := by simp [rgs, List.getD, List.getElem?_eq_getElem hyL]
            have Hgy := Lib.hid hgy
            obtain ⟨a2, ha2⟩ : ∃ a, l[y].1 = a := ⟨_, rfl⟩
            obtain ⟨D2, hD2⟩ : ∃ D, l[y].2.a = D := ⟨_, rfl⟩
            obtain ⟨f2, hf2⟩ : ∃ d, l[y].2.c = d := ⟨_, rfl⟩
            rw [ha2, hD2, hf2] at d0 hsl2
            rw [ha2] at Hgy
            obtain ⟨q2, hq2⟩ : ∃ q, a2.length = q := ⟨_, rfl⟩
            rw [hq2] at d0 hsl2
            have Hm := Lib.hid (fun W (hW : Below wr.heap.size wr W) => meetsR_any D D2 q d q2 f2 a a2 W ((Hs8.out.below Hby.out).below hW) (hsl2.below hW))
            have Hmv : Hid (meetsP ((rgs l).getD x []) ((rgs l).getD y []) = meetsP a a2) := Lib.hid (by rw [Hgx.out, Hgy.out])
            clear hgy ha2 hD2 hf2 hq2 hsl2
            have x0 := (Hby.out.cell (p := ⟨b, off + x, none⟩) hb).trans c0
            have hP0r : b < wr.heap.size := by omega
            have hx0 : 0 ≤ (x : Int) := by omega
            have hy0 : 0 ≤ (y : Int) := by omega
            generalize meetsP a a2 = mt at *
            go_upto_region 10 with fail
            refine wp_region_below wr.heap.size (Nat.le_refl _) (by kernel_rfl) (by kernel_rfl) ?_
            intro I _ F hFc hFb hFs
            have g0 := fun i => (hFc i b (off + x) hP0r).trans x0
            have g1 := fun i => (hFc i b (off + y) hb2).trans d0
            repeat (go_big_quiet_step ((first
              | (go_at_call 43; exact class_call hFb hFs (Nat.le_refl _) (Hm.out _ (hFb _))))))
            refine wpQuiet_nil ?_
            rintro _ ⟨iq, rfl⟩
            generalize hw4 : F iq = w4
            have hb4 : Below wr.heap.size wr w4 := by rw [← hw4]; exact hFb iq
            have Hb4 := Lib.hid hb4
            clear hw4 hFc hFb hFs g0 g1 hb4 x0 d0
            clear ex ex'
            cases mt
            · clear Hm
              go_wp2
              go_roundw
              case rel => exact ⟨y + 1, by go_num, by omega, by omega, Lib.hid (fun y' h1 h2 => by
                rcases Nat.lt_or_ge y' y with h | h
                · exact Hny.out y' h1 h
                · obtain rfl : y' = y := by omega
                  exact Hmv.out), Hby.out.trans (Hb4.out.mono hsy)⟩
              case measure => simp [intOf]; omega
            · go_wp2
              refine bodyPost_ret (v := .tuple #[.int .i64 (x : Int), .int .i64 (y : Int), .bool true, .int .i64 0]) (by simp [results, Tryz.results18, go_sem, *]) rfl ?_
              exact ⟨_, _, _, _, rfl, (Hdi.out _ _ _ _).2 ⟨rfl, .inr (.inr ⟨by first | rfl | trivial, x, y, rfl, rfl, rfl, hxy, hyl, Hmv.out, Hno.out, Hny.out⟩)⟩, (Hb8.out.trans (Hby.out.mono hsw8)).trans (Hb4.out.mono (by omega))⟩
          · obtain rfl : y = n := by omega
            go_wp2
            go_roundw
            case rel => exact ⟨x + 1, by go_num, by omega, Lib.hid (fun x' y' h1 h2 h3 => by
              rcases Nat.lt_or_ge x' x with h | h
              · exact Hno.out x' y' h h2 h3
              · obtain rfl : x' = x := by omega
                exact Hny.out y' h2 h3), Hb8.out.trans (Hby.out.mono hsw8)⟩
            case measure => simp [intOf]; omega
      · obtain rfl : x = n := by omega
        go_wp2
        refine bodyPost_ret (v := .tuple #[.int .i64 0, .int .i64 0, .bool false, .int .i64 0]) (by simp [results, Tryz.results18, go_sem, *]) rfl ?_
        exact ⟨_, _, _, _, rfl, (Hdi.out _ _ _ _).2 ⟨rfl, .inr (.inl ⟨by first | rfl | trivial, rfl, rfl, rfl, fun a b h1 h2 => Hno.out a b (by omega) h1 h2⟩)⟩, Hbx.out⟩
  · go_wp2_with (first
      | (go_at_call 40
         refine Hrg.out.mono ?_
         rintro e w1 ⟨rfl, hb1⟩
         have Hb1 := Lib.hid hb1
         clear hb1)
      | fail)
    refine bodyPost_ret (v := .tuple #[.int .i64 0, .int .i64 0, .bool false, .int .i64 er]) (by simp [results, Tryz.results18, go_sem, *]) rfl ?_
    exact ⟨_, _, _, _, rfl, (Hdi.out _ _ _ _).2 ⟨rfl, .inl ⟨her, rfl, rfl, rfl⟩⟩, Hb1.out⟩
end Go.Proofs.YtabcadpfhachoaaGreat

namespace Go.Proofs.YtabcadpfhachoaaGreat
open Go.RowKit Go.Shelf
set_option linter.unusedVariables false
set_option linter.unusedSimpArgs false

theorem flat_take (l : List (List R4)) (k : Nat) : (l.take k).flatten.length ≤ l.flatten.length := by
  conv => rhs; rw [← List.take_append_drop k l]
  rw [List.flatten_append, List.length_append]
  omega
set_option maxHeartbeats 4000000 in
set_option maxRecDepth 100000 in
theorem coverR_any (A B : Option Addr) (n c m d : Nat) (a : List R4) (l : RL) (w : World) (hB : SlR w B m d a) (hA : SlG w A n c l) (hN : a.length + (rgs l).flatten.length ≤ 60) :
    Calls Tryz.prog 16 #[.agg #[.slice B m d], .slice A n c] w fun e w' => e = .returned (.tuple #[.bool (coverP a (rgs l)).1, .int .i64 (coverP a (rgs l)).2]) ∧ Below w.heap.size w w' := by
  have HA := Lib.hid hA
  have HB := Lib.hid hB
  have HN := Lib.hid hN
  have Hlen : Hid ((rgs l).length = n) := Lib.hid (by rw [rgs_len]; exact hA.len)
  have Hrg := Lib.hid (fun W (hW : Below w.heap.size w W) => validL_any A n c l W (hA.below hW))
  have HV := Lib.hid (fun W (hW : Below w.heap.size w W) => validR_any B m d a W (hB.below hW))
  have Hres : Hid (coverP a (rgs l) = if regsP (rgs l) = 0 then (if validP a then (decide ((chooseP notB a (rgs l).flatten).length = 0), 0) else (false, 7)) else (false, regsP (rgs l))) := Lib.hid rfl
  have H60 := Lib.hid (fun h => (regs_ok (l := rgs l) h).1)
  rw [Hlen.out] at H60
  have Hch := Lib.hid (fun h1 (h2 : validP a = true) => chain_cover h2 (regs_ok (l := rgs l) h1).2)
  have Hcl : Hid (validP a = true → ∀ k, (chainP notB a ((rgs l).take k)).length ≤ 7200) := Lib.hid (fun h k => by
    have h1 := chain_cover_len (l := (rgs l).take k) h
    have h2 := flat_take (rgs l) k
    have h3 : a.length + ((rgs l).take k).flatten.length ≤ 60 := by omega
    have h4 : (2 * (a.length + ((rgs l).take k).flatten.length)) * (a.length + ((rgs l).take k).flatten.length) ≤ 120 * 60 := Nat.mul_le_mul (by omega) h3
    omega)
  have Hm : Hid (a.length = m) := Lib.hid hB.len
  generalize coverP a (rgs l) = res at *
  generalize regsP (rgs l) = er at *
  generalize hva : validP a = va at *
  have Hva := Lib.hid hva
  clear hA hB hN hva
  go_enter Tryz.func16, Tryz.ntmps16
  by_cases her : er = 0
  · subst her
    have hn60 := H60.out rfl
    cases va
    · go_wp2_with (first
        | (go_at_call 40
           refine (Hrg.out _ (by repeat' (first | with_reducible exact Below.refl _ _ | with_reducible refine below_drewN ?_ _ | with_reducible refine Below.drew ?_ | with_reducible refine Below.alloc ?_ ?_ _ | with_reducible refine Below.setCell ?_ ?_ _ | with_reducible refine Below.trans ?_ (Below.mono (by with_reducible assumption) ?_) | (simp; done) | (simp; omega) | omega))).mono ?_
           rintro e w1 ⟨rfl, hb1⟩
           have hx1 : w1.heap[w.heap.size]? = some (.cells #[.slice B m d] 34 (0, 0)) := (hb1.block _ (by simp)).trans (heap_alloc_new w _)
           have x1 := cell_of_row _ _ 0 _ _ _ hx1
           have Hb1 : Hid (Below w.heap.size w w1) := Lib.hid (show Below w.heap.size w w1 from (by have hbq := hb1; exact (by repeat' (first | with_reducible exact Below.refl _ _ | with_reducible assumption | with_reducible refine below_drewN ?_ _ | with_reducible refine Below.drew ?_ | with_reducible refine Below.alloc ?_ ?_ _ | with_reducible refine Below.setCell ?_ ?_ _ | with_reducible refine Below.trans ?_ (Below.mono (by with_reducible assumption) ?_) | with_reducible refine below_only ?_ (by with_reducible assumption) ?_ ?_ | (simp; done) | (simp; omega) | omega))))
           clear hb1 hx1)
        | (go_at_call 37
           refine (HV.out _ Hb1.out).mono ?_
           rintro e w2 ⟨rfl, hb2⟩)
        | fail)
      go_ret2
      exact ⟨by rw [Hres.out]; rfl, Hb1.out.trans (hb2.mono Hb1.out.size)⟩
    · have Hcl0 := Lib.hid (Hcl.out rfl)
      have Hch0 := Lib.hid (Hch.out rfl rfl)
      go_upto_region 8 with (first
        | (go_at_call 40
           refine (Hrg.out _ (by repeat' (first | with_reducible exact Below.refl _ _ | with_reducible refine below_drewN ?_ _ | with_reducible refine Below.drew ?_ | with_reducible refine Below.alloc ?_ ?_ _ | with_reducible refine Below.setCell ?_ ?_ _ | with_reducible refine Below.trans ?_ (Below.mono (by with_reducible assumption) ?_) | (simp; done) | (simp; omega) | omega))).mono ?_
           rintro e w1 ⟨rfl, hb1⟩
           have hx1 : w1.heap[w.heap.size]? = some (.cells #[.slice B m d] 34 (0, 0)) := (hb1.block _ (by simp)).trans (heap_alloc_new w _)
           have x1 := cell_of_row _ _ 0 _ _ _ hx1
           have Hx1 := Lib.hid hx1
           have hs1 : w.heap.size < w1.heap.size := by have := hb1.size; simp at this; omega
           have Hb1 : Hid (Below w.heap.size w w1) := Lib.hid (show Below w.heap.size w w1 from (by have hbq := hb1; exact (by repeat' (first | with_reducible exact Below.refl _ _ | with_reducible assumption | with_reducible refine below_drewN ?_ _ | with_reducible refine Below.drew ?_ | with_reducible refine Below.alloc ?_ ?_ _ | with_reducible refine Below.setCell ?_ ?_ _ | with_reducible refine Below.trans ?_ (Below.mono (by with_reducible assumption) ?_) | with_reducible refine below_only ?_ (by with_reducible assumption) ?_ ?_ | (simp; done) | (simp; omega) | omega))))
           clear hb1 hx1)
        | (go_at_call 37
           refine (HV.out _ Hb1.out).mono ?_
           rintro e w2 ⟨rfl, hb2⟩
           have Hb2 : Hid (Below w.heap.size w w2) := Lib.hid (Hb1.out.trans (hb2.mono Hb1.out.size))
           have hx2 : w2.heap[w.heap.size]? = some (.cells #[.slice B m d] 34 (0, 0)) := (hb2.block _ hs1).trans Hx1.out
           have x2 := cell_of_row _ _ 0 _ _ _ hx2
           clear hb2 hx2)
        | fail)
      clear x1 x2
      go_loopw [7, 22] (fun v iv wr => ∃ (k : Nat) (D : Option Addr) (e : Nat), iv = .int .i64 (k : Int) ∧ k ≤ n ∧ v = .slice D (chainP notB a ((rgs l).take k)).length e ∧ SlR wr D (chainP notB a ((rgs l).take k)).length e (chainP notB a ((rgs l).take k)) ∧ Below w2.heap.size w2 wr) (fun _ iv _ => n - (intOf iv).toNat)
      case atStart => exact ⟨0, B, d, rfl, by omega, by rw [show chainP notB a ((rgs l).take 0) = a from rfl, Hm.out], by rw [show chainP notB a ((rgs l).take 0) = a from rfl, Hm.out]; exact HB.out.below Hb2.out, Below.refl _ _⟩
      case round =>
        obtain ⟨k, D, e, rfl, hkn, rfl, hS, hbr⟩ := hrel
        have Hbr := Lib.hid hbr
        have hsr := hbr.size
        have HS := Lib.hid hS
        clear hbr hS
        by_cases hk : k < n
        · have hk' : (k : Int) < (n : Int) := by omega
          have hkl : k < l.length := by have := HA.out.len; omega
          obtain ⟨b, off, rfl, hb, c0, hsl⟩ := ((HA.out.below Hb2.out).below Hbr.out).at k hkl
          have Hnx : Hid (chainP notB a ((rgs l).take (k + 1)) = combP (howR 3) (chainP notB a ((rgs l).take k)) l[k].1) := Lib.hid (by
            rw [List.take_succ_eq_append_getElem (by rw [rgs_len]; exact hkl), chainP_snoc, howR3]
            simp [rgs])
          have hle := Hcl0.out k
          have hx60 : l[k].1.length ≤ 60 := by
            have h1 := flat_take (rgs l) (k + 1)
            have h2 := HN.out
            rw [List.take_succ_eq_append_getElem (by rw [rgs_len]; exact hkl), List.flatten_append, List.length_append] at h1
            have h3 : ((rgs l)[k]'(by rw [rgs_len]; exact hkl)) = l[k].1 := by simp [rgs]
            rw [h3] at h1
            simp only [List.flatten_cons, List.flatten_nil, List.append_nil] at h1
            omega
          obtain ⟨U, hU⟩ : ∃ U, chainP notB a ((rgs l).take k) = U := ⟨_, rfl⟩
          obtain ⟨U', hU'⟩ : ∃ U, chainP notB a ((rgs l).take (k + 1)) = U := ⟨_, rfl⟩
          obtain ⟨x, hx⟩ : ∃ x, l[k].1 = x := ⟨_, rfl⟩
          obtain ⟨D2, hD⟩ : ∃ D, l[k].2.a = D := ⟨_, rfl⟩
          obtain ⟨e2, he⟩ : ∃ e, l[k].2.c = e := ⟨_, rfl⟩
          rw [hU] at HS Hnx hle ⊢
          rw [hU', hx] at Hnx
          rw [hx, hD, he] at c0 hsl
          rw [hx] at hx60
          have HU' := Lib.hid hU'
          have Hcb := Lib.hid (fun W hW => combineR_any D D2 _ e _ e2 U x 3 W (HS.out.below hW) (hsl.below hW) (by omega))
          rw [← Hnx.out] at Hcb
          obtain ⟨un, hun⟩ : ∃ un, U.length = un := ⟨_, rfl⟩
          obtain ⟨q, hq⟩ : ∃ q, x.length = q := ⟨_, rfl⟩
          rw [hun, hq] at Hcb
          rw [hun]
          rw [hq] at c0
          clear hU hU' hx hD he hun hq hsl hle hx60
          go_wp2_with (first
            | (go_at_call 38
               refine (Hcb.out _ ((Below.refl _ _).alloc (Nat.le_refl _) _)).mono ?_
               rintro e w5 ⟨v5, rfl, hown5, hb5⟩
               obtain ⟨E, ec, rfl, hS5⟩ := SlR.of_own hown5
               have HS5 := Lib.hid hS5
               have Hb5 : Hid (Below wr.heap.size wr w5) := Lib.hid (show Below wr.heap.size wr w5 from (by have hbq := hb5; exact (by repeat' (first | with_reducible exact Below.refl _ _ | with_reducible assumption | with_reducible refine below_drewN ?_ _ | with_reducible refine Below.drew ?_ | with_reducible refine Below.alloc ?_ ?_ _ | with_reducible refine Below.setCell ?_ ?_ _ | with_reducible refine Below.trans ?_ (Below.mono (by with_reducible assumption) ?_) | with_reducible refine below_only ?_ (by with_reducible assumption) ?_ ?_ | (simp; done) | (simp; omega) | omega))))
               clear hown5 hb5 hS5)
            | fail)
          go_roundw
          case rel => exact ⟨k + 1, E, ec, by go_num, by omega, by rw [HU'.out], by rw [HU'.out]; exact HS5.out, Hbr.out.trans (Hb5.out.mono hsr)⟩
          case measure => simp [intOf]; omega
        · obtain rfl : k = n := by omega
          have htk : (rgs l).take k = rgs l := List.take_of_length_le (by rw [Hlen.out]; exact Nat.le_refl _)
          rw [htk, Hch0.out] at HS ⊢
          clear htk
          have Hr : Hid (res = (decide ((chooseP notB a (rgs l).flatten).length = 0), 0)) := Lib.hid (by rw [Hres.out, if_pos trivial, if_pos trivial])
          generalize chooseP notB a (rgs l).flatten = R at *
          go_wp2
          go_ret2
          refine ⟨?_, Hb2.out.trans (Hbr.out.mono Hb2.out.size)⟩
          rw [Hr.out]
          by_cases h0 : R.length = 0
          · simp [h0]
          · have : ((R.length : Int) == 0) = false := by simpa using h0
            simp [h0]
  · go_wp2_with (first
      | (go_at_call 40
         refine (Hrg.out _ (by repeat' (first | with_reducible exact Below.refl _ _ | with_reducible refine below_drewN ?_ _ | with_reducible refine Below.drew ?_ | with_reducible refine Below.alloc ?_ ?_ _ | with_reducible refine Below.setCell ?_ ?_ _ | with_reducible refine Below.trans ?_ (Below.mono (by with_reducible assumption) ?_) | (simp; done) | (simp; omega) | omega))).mono ?_
         rintro e w1 ⟨rfl, hb1⟩
         have Hb1 : Hid (Below w.heap.size w w1) := Lib.hid (show Below w.heap.size w w1 from (by have hbq := hb1; exact (by repeat' (first | with_reducible exact Below.refl _ _ | with_reducible assumption | with_reducible refine below_drewN ?_ _ | with_reducible refine Below.drew ?_ | with_reducible refine Below.alloc ?_ ?_ _ | with_reducible refine Below.setCell ?_ ?_ _ | with_reducible refine Below.trans ?_ (Below.mono (by with_reducible assumption) ?_) | with_reducible refine below_only ?_ (by with_reducible assumption) ?_ ?_ | (simp; done) | (simp; omega) | omega))))
         clear hb1)
      | fail)
    go_ret2
    exact ⟨by rw [Hres.out, if_neg her]; rfl, Hb1.out⟩
end Go.Proofs.YtabcadpfhachoaaGreat
