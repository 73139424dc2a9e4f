/- Contracts: check, Areas, Common (overlay). -/
import Derived.Test.YtabcadpfhachoaaGreatOC
import Derived.Test.YtabcadpfhachoaaGreatHT
namespace Go.Proofs.YtabcadpfhachoaaGreat
open Go.RowKit Go.Shelf
set_option linter.unusedVariables false
set_option linter.unusedSimpArgs false

abbrev FS (w : World) := { x : Fc × LV // SlR w x.2.a x.1.rg.length x.2.c x.1.rg }
instance (w : World) : Inhabited (FS w) := ⟨⟨(⟨0, []⟩, ⟨none, 0⟩), SlR.nil w⟩⟩
def fsOf {w : World} {l : FL} (h : ∀ x ∈ l, SlR w x.2.a x.1.rg.length x.2.c x.1.rg) : List (FS w) := l.attach.map fun x => ⟨x.1, h x.1 x.2⟩
theorem fsOf_len {w : World} {l : FL} (h : ∀ x ∈ l, SlR w x.2.a x.1.rg.length x.2.c x.1.rg) : (fsOf h).length = l.length := by simp [fsOf]
theorem fsOf_get {w : World} {l : FL} (h : ∀ x ∈ l, SlR w x.2.a x.1.rg.length x.2.c x.1.rg) (j : Nat) (hj : j < l.length) : ((fsOf h)[j]'(by rw [fsOf_len]; exact hj)).1 = l[j] := by simp [fsOf]
theorem fsOf_any {w : World} {l : FL} (h : ∀ x ∈ l, SlR w x.2.a x.1.rg.length x.2.c x.1.rg) (q : Fc × LV → Bool) : (fsOf h).any (fun x => q x.1) = l.any q := by
  rw [Bool.eq_iff_iff, List.any_eq_true, List.any_eq_true]
  constructor
  · rintro ⟨x, hx, hq⟩
    obtain ⟨y, hy, rfl⟩ := List.mem_map.1 hx
    exact ⟨y.1, y.2, hq⟩
  · rintro ⟨x, hx, hq⟩
    exact ⟨⟨x, h x hx⟩, List.mem_map.2 ⟨⟨x, hx⟩, List.mem_attach _ _, rfl⟩, hq⟩

set_option maxHeartbeats 1000000 in
theorem containsFc_any (p : Fc × LV → Bool) (f : Nat) (lb : Array Value) (eg : ∀ args w, (callFunc f args).run Tryz.prog w = .ok (.enter f args) w) (A : Option Addr) (n c : Nat) (l : FL) (w : World) (hA : SlF w A n c l)
    (hp : PredBelow Tryz.prog f lb (fun x : FS w => .agg (fcC x.1).toArray) (fun x => p x.1) w) :
    Calls Tryz.prog 76 #[.slice A n c, .func (.func f) #[] lb] w fun e w' => e = .returned (.bool (l.any p)) ∧ Below w.heap.size w w' := by
  have hx := hA.len
  have hn := Nat.le_trans hA.cap hA.top
  unfold maxLen at hn
  rcases Nat.eq_zero_or_pos n with h0 | h0
  · subst h0
    obtain rfl : l = [] := List.length_eq_zero_iff.1 hx
    clear hA hp eg
    go_enter Tryz.func76, Tryz.ntmps76
    go_wp2
    go_loop [8] (fun i => i = .int .i64 0) (fun _ => 0)
    case atStart => rfl
    case round =>
      subst hrel
      go_wp2
      go_ret
      exact ⟨rfl, Below.refl _ _⟩
  · obtain ⟨b1, o1, rfl, hb1, hc1⟩ := hA.lies.resolve_left (by omega)
    have hgl := fsOf_len hA.fits
    refine (AnyQ.slices_ContainsFunc Tryz.layContainsFace 2 Tryz.isAgg36 Tryz.sizeOf36 (fun x : FS w => fcC x.1) (fun _ => rfl) (fun x => p x.1) f lb eg b1 o1 n c (fsOf hA.fits) w hp (by omega) (by omega) hb1 ?_).mono ?_
    · intro j hj i v hv
      have hj' : j < l.length := by omega
      rw [getElem!_pos (fsOf hA.fits) j (by omega), fsOf_get hA.fits j hj'] at hv
      obtain ⟨h1, h2⟩ := fcCells_at l j hj'
      have hi : i < 2 := by
        rcases Nat.lt_or_ge i 2 with h | h
        · exact h
        · rw [List.getElem?_eq_none (by simp [fcC]; omega)] at hv; cases hv
      obtain rfl | rfl : i = 0 ∨ i = 1 := by omega
      · simp [fcC] at hv
        subst hv
        exact hc1 _ _ h1
      · simp [fcC] at hv
        subst hv
        exact hc1 _ _ h2
    · rintro e w' ⟨rfl, hb⟩
      rw [List.take_of_length_le (by omega), fsOf_any hA.fits p]
      exact ⟨rfl, hb⟩

set_option maxHeartbeats 400000 in
theorem checkFn (w : World) : PredBelow Tryz.prog 77 #[] (fun x : FS w => .agg (fcC x.1).toArray) (fun x => !validP x.1.1.rg) w := by
  intro W x hb
  obtain ⟨⟨⟨s, l⟩, v⟩, hx⟩ := x
  refine Calls.mono (show Calls Tryz.prog 77 #[.agg #[.int .i64 s, .slice v.a l.length v.c]] W fun e w' => e = .returned (.bool (!validP l)) ∧ Below W.heap.size W w' from ?_) ?_
  · have HV := Lib.hid (fun W' (hW : Below W.heap.size W W') => valid_any v.a l.length v.c l W' ((hx.below hb).below hW))
    generalize validP l = x at *
    clear hx
    go_enter Tryz.func77, Tryz.ntmps77
    go_wp2_with (first | (go_at_call 27; refine (HV.out _ (by repeat' (first | with_reducible exact Below.refl _ _ | with_reducible refine below_drewN ?_ _ | with_reducible refine Below.drew ?_ | with_reducible refine Below.alloc ?_ ?_ _ | with_reducible refine Below.setCell ?_ ?_ _ | with_reducible refine Below.trans ?_ (Below.mono (by with_reducible assumption) ?_) | (simp; done) | (simp; omega) | omega))).mono ?_; rintro e w1 ⟨rfl, hb1⟩) | fail)
    go_ret
    exact ⟨rfl, (by repeat' (first | with_reducible exact Below.refl _ _ | with_reducible assumption | with_reducible refine below_drewN ?_ _ | with_reducible refine Below.drew ?_ | with_reducible refine Below.alloc ?_ ?_ _ | with_reducible refine Below.setCell ?_ ?_ _ | with_reducible refine Below.trans ?_ (Below.mono (by with_reducible assumption) ?_) | with_reducible refine below_only ?_ (by with_reducible assumption) ?_ ?_ | (simp; done) | (simp; omega) | omega))⟩
  · rintro e w' ⟨rfl, h⟩
    exact ⟨rfl, hb.trans (h.mono hb.size)⟩

def lastOf (F : List Fc) : Nat → Int
  | 0 => 0
  | k + 1 => (F.getD k ⟨0, []⟩).set
def okAt (F : List Fc) (k : Nat) : Bool := decide (lastOf F k < (F.getD k ⟨0, []⟩).set) && decide ((F.getD k ⟨0, []⟩).set < 4096)
def ascF (F : List Fc) : Bool := (List.range F.length).all (okAt F)
/-- overlay's check. -/
def checkFP (F : List Fc) : Int := if 200 < F.length then 1 else if F.all (fun f => validP f.rg) then (if ascF F then 0 else 3) else 7

set_option maxHeartbeats 2000000 in
set_option maxRecDepth 100000 in
theorem check_any (A : Option Addr) (n c : Nat) (l : FL) (w : World) (hA : SlF w A n c l) : Calls Tryz.prog 44 #[.slice A n c] w fun e w' => e = .returned (.int .i64 (checkFP (fcs l))) ∧ Below w.heap.size w w' := by
  have hlen : (fcs l).length = n := by rw [fcs, List.length_map]; exact hA.len
  have HA := Lib.hid hA
  have eg : ∀ args w, (callFunc 77 args).run Tryz.prog w = .ok (.enter 77 args) w := enters_of Tryz.func77 (by kernel_rfl) rfl
  have Hcf := Lib.hid (containsFc_any (fun x => !validP x.1.rg) 77 #[] eg A n c l w hA (checkFn w))
  have hall : (l.any fun x => !validP x.1.rg) = !(fcs l).all (fun f => validP f.rg) := by
    rw [any_not_all]
    simp [fcs, List.all_map]
    rfl
  rw [hall] at Hcf
  have Hres : Hid (checkFP (fcs l) = if 200 < n then 1 else if (fcs l).all (fun f => validP f.rg) then (if ascF (fcs l) then 0 else 3) else 7) := Lib.hid (by unfold checkFP; rw [hlen])
  have Hlen := Lib.hid hlen
  generalize checkFP (fcs l) = res at *
  generalize (fcs l).all (fun f => validP f.rg) = va at *
  clear hA hlen hall eg
  go_enter Tryz.func44, Tryz.ntmps44
  by_cases h200 : 200 < n
  · have h200' : (200 : Int) < (n : Int) := by omega
    go_wp2
    go_ret
    exact ⟨by rw [Hres.out, if_pos h200]; rfl, Below.refl _ _⟩
  · have h200' : ¬ (200 : Int) < (n : Int) := by omega
    cases va
    · go_wp2_with (first | (go_at_call 76; refine Hcf.out.mono ?_; rintro e w1 ⟨rfl, hb1⟩) | fail)
      go_ret
      exact ⟨by rw [Hres.out, if_neg h200]; rfl, hb1⟩
    · go_upto_region 7 with (first | (go_at_call 76; refine Hcf.out.mono ?_; rintro e w1 ⟨rfl, hb1⟩) | fail)
      have Hb1 := Lib.hid hb1
      have hs1 := hb1.size
      clear hb1
      go_loopw [3, 13] (fun lv iv wr => ∃ k : Nat, iv = .int .i64 (k : Int) ∧ k ≤ n ∧ lv = .int .i64 (lastOf (fcs l) k) ∧ Hid ((List.range k).all (okAt (fcs l)) = true) ∧ Below w.heap.size w wr) (fun _ iv _ => n - (intOf iv).toNat)
      case atStart => exact ⟨0, rfl, by omega, rfl, Lib.hid rfl, Hb1.out⟩
      case round =>
        obtain ⟨k, rfl, hkn, rfl, Hall, hbr⟩ := hrel
        have Hbr := Lib.hid hbr
        have hsr := hbr.size
        clear hbr
        by_cases hk : k < n
        · have hk' : (k : Int) < (n : Int) := by omega
          have hkl : k < l.length := by have := HA.out.len; omega
          obtain ⟨b, off, rfl, hb, c0, c1, _⟩ := (HA.out.below Hbr.out).at k hkl
          have hg : (fcs l).getD k ⟨0, []⟩ = l[k].1 := by simp [fcs, List.getD, List.getElem?_eq_getElem hkl]
          have Hok : Hid (okAt (fcs l) k = (decide (lastOf (fcs l) k < l[k].1.set) && decide (l[k].1.set < 4096))) := Lib.hid (by unfold okAt; rw [hg])
          have Hlast : Hid (lastOf (fcs l) (k + 1) = l[k].1.set) := Lib.hid (by show ((fcs l).getD k ⟨0, []⟩).set = _; rw [hg])
          obtain ⟨z, hz⟩ : ∃ z, l[k].1.set = z := ⟨_, rfl⟩
          obtain ⟨D, hD⟩ : ∃ D, l[k].2.a = D := ⟨_, rfl⟩
          obtain ⟨q, hq⟩ : ∃ q, l[k].1.rg.length = q := ⟨_, rfl⟩
          obtain ⟨d, hd⟩ : ∃ d, l[k].2.c = d := ⟨_, rfl⟩
          rw [hz] at c0 Hok Hlast
          rw [hD, hq, hd] at c1
          obtain ⟨lt, hlt⟩ : ∃ lt, lastOf (fcs l) k = lt := ⟨_, rfl⟩
          rw [hlt] at Hok ⊢
          clear hg hz hD hq hd hlt
          have Hbad : Hid (okAt (fcs l) k = false → res = 3) := Lib.hid (fun h => by
            rw [Hres.out, if_neg h200, if_pos trivial, if_neg]
            intro hc
            have := List.all_eq_true.1 hc k (List.mem_range.2 (by rw [Hlen.out]; exact hk))
            rw [h] at this
            cases this)
          by_cases h1 : lt < z
          · have h1' : ¬ z ≤ lt := by omega
            by_cases h2 : z < 4096
            · have h2' : ¬ 4096 ≤ z := by omega
              go_wp2
              go_roundw
              case rel => exact ⟨k + 1, by go_num, by omega, by rw [Hlast.out], Lib.hid (by rw [List.range_succ, List.all_append, Hall.out, List.all_cons, Hok.out]; simp [h1, h2]), Hbr.out.alloc hsr _⟩
              case measure => simp [intOf]; omega
            · have h2' : 4096 ≤ z := by omega
              have Hr := Lib.hid (Hbad.out (by rw [Hok.out]; simp [h2]))
              go_wp2
              go_ret
              exact ⟨by rw [Hr.out]; rfl, Hbr.out.alloc hsr _⟩
          · have h1' : z ≤ lt := by omega
            have Hr := Lib.hid (Hbad.out (by rw [Hok.out]; simp [h1]))
            go_wp2
            go_ret
            exact ⟨by rw [Hr.out]; rfl, Hbr.out.alloc hsr _⟩
        · obtain rfl : k = n := by omega
          go_wp2
          go_ret
          refine ⟨?_, Hbr.out⟩
          rw [Hres.out, if_neg h200, if_pos trivial, if_pos (by unfold ascF; rw [Hlen.out]; exact Hall.out)]
          rfl

def prCells (l : List (Int × Int)) : List Value := l.flatMap fun x => [.int .i64 x.1, .int .i64 x.2]
theorem prCells_len (l : List (Int × Int)) : (prCells l).length = l.length * 2 := by
  induction l with
  | nil => rfl
  | cons a t ih => show (prCells t).length + 2 = _; rw [ih, List.length_cons]; omega
theorem prCells_snoc (l : List (Int × Int)) (x : Int × Int) : prCells (l ++ [x]) = prCells l ++ [.int .i64 x.1, .int .i64 x.2] := by simp [prCells]
theorem prCells_at (l : List (Int × Int)) (i : Nat) (h : i < l.length) : (prCells l)[i * 2]? = some (.int .i64 l[i].1) ∧ (prCells l)[i * 2 + 1]? = some (.int .i64 l[i].2) := by
  induction l generalizing i with
  | nil => simp at h
  | cons a t ih =>
    cases i with
    | zero => exact ⟨rfl, rfl⟩
    | succ i =>
      have := ih i (by simpa using h)
      have e : prCells (a :: t) = [.int .i64 a.1, .int .i64 a.2] ++ prCells t := rfl
      rw [e]
      constructor
      · rw [List.getElem?_append_right (by simp; omega)]
        have : (i + 1) * 2 - 2 = i * 2 := by omega
        simp only [List.length_cons, List.length_nil]
        rw [show (i + 1) * 2 - (0 + 1 + 1) = i * 2 by omega]
        simpa using (ih i (by simpa using h)).1
      · rw [List.getElem?_append_right (by simp; omega)]
        simp only [List.length_cons, List.length_nil]
        rw [show (i + 1) * 2 + 1 - (0 + 1 + 1) = i * 2 + 1 by omega]
        simpa using (ih i (by simpa using h)).2
def areasFP (F : List Fc) : List (Int × Int) × Int := if checkFP F = 0 then (F.map fun f => (f.set, areaP f.rg), 0) else ([], checkFP F)
def AsPost (w : World) (x : List (Int × Int) × Int) (e : Ending) (w' : World) : Prop :=
  ∃ v, e = .returned (.tuple #[v, .int .i64 x.2]) ∧ w'.ownsRow w.heap.size 56 2 v x.1.length (prCells x.1) ∧ Below w.heap.size w w'
theorem Tryz.infoPair : (Tryz.prog.info? 56).map (fun i => (i.zero, i.size, i.bytes)) = some (some (.agg #[.int .i64 0, .int .i64 0]), 2, 16) := by kernel_rfl

set_option maxHeartbeats 4000000 in
set_option maxRecDepth 100000 in
theorem areasF_any (A : Option Addr) (n c : Nat) (l : FL) (w : World) (hA : SlF w A n c l) (hn200 : n ≤ 1000) : Calls Tryz.prog 23 #[.slice A n c] w (AsPost w (areasFP (fcs l))) := by
  obtain ⟨i0, hi, hz0, hz1, hz2⟩ := info_parts Tryz.infoPair
  have hlen : (fcs l).length = n := by rw [fcs, List.length_map]; exact hA.len
  have HA := Lib.hid hA
  have Hck := Lib.hid (check_any A n c l w hA)
  have Hres : Hid (areasFP (fcs l) = if checkFP (fcs l) = 0 then ((fcs l).map fun f => (f.set, areaP f.rg), 0) else ([], checkFP (fcs l))) := Lib.hid rfl
  have Hlen := Lib.hid hlen
  generalize areasFP (fcs l) = res at *
  generalize checkFP (fcs l) = er at *
  clear hA hlen
  go_enter Tryz.func23, Tryz.ntmps23
  by_cases her : er = 0
  · subst her
    go_upto_region 6 with (first | (go_at_call 44; refine Hck.out.mono ?_; rintro e w1 ⟨rfl, hb1⟩) | fail)
    have Hb1 := Lib.hid hb1
    have hs1 := hb1.size
    clear hb1 Hck
    go_loopw [5, 15] (fun v iv wr => ∃ k : Nat, iv = .int .i64 (k : Int) ∧ k ≤ n ∧ wr.ownsRow w.heap.size 56 2 v k (prCells (((fcs l).take k).map fun f => (f.set, areaP f.rg))) ∧ Below w.heap.size w wr) (fun _ iv _ => n - (intOf iv).toNat)
    case atStart => exact ⟨0, rfl, by omega, World.ownsRow_nil _ _ _ _, Hb1.out⟩
    case round =>
      obtain ⟨k, rfl, hkn, hown, hbr⟩ := hrel
      have Hbr := Lib.hid hbr
      have hsr := hbr.size
      have Hown := Lib.hid hown
      obtain ⟨VA, vc, rfl, _, _, _⟩ := own_slice hown
      clear hbr hown
      by_cases hk : k < n
      · have hk' : (k : Int) < (n : Int) := by omega
        have hkl : k < l.length := by have := HA.out.len; omega
        obtain ⟨b, off, rfl, hb, c0, c1, hsl⟩ := (HA.out.below Hbr.out).at k hkl
        have Hnx : Hid (prCells (((fcs l).take (k + 1)).map fun f => (f.set, areaP f.rg)) = prCells (((fcs l).take k).map fun f => (f.set, areaP f.rg)) ++ [.int .i64 l[k].1.set, .int .i64 (areaP l[k].1.rg)]) := Lib.hid (by
          rw [List.take_succ_eq_append_getElem (by rw [Hlen.out]; exact hk), List.map_append, List.map_singleton, prCells_snoc]
          simp [fcs])
        have Har := Lib.hid (fun W hW => area_any _ _ _ _ W (hsl.below hW))
        obtain ⟨z, hz⟩ : ∃ z, l[k].1.set = z := ⟨_, rfl⟩
        obtain ⟨D, hD⟩ : ∃ D, l[k].2.a = D := ⟨_, rfl⟩
        obtain ⟨q, hq⟩ : ∃ q, l[k].1.rg.length = q := ⟨_, rfl⟩
        obtain ⟨d, hd⟩ : ∃ d, l[k].2.c = d := ⟨_, rfl⟩
        obtain ⟨ar, har⟩ : ∃ ar, areaP l[k].1.rg = ar := ⟨_, rfl⟩
        rw [hz, har] at Hnx
        rw [hD, hq, hd, har] at Har
        rw [hz] at c0
        rw [hD, hq, hd] at c1
        clear hz hD hq hd har hsl
        go_upto_region 8 with fail
        have Hrow : Hid ((wr.alloc (.cells #[.int .i64 z, .slice D q d] 36)).heap[wr.heap.size]? = some (.cells #[.int .i64 z, .slice D q d] 36 (0, 0))) := Lib.hid (heap_alloc_new wr _)
        have Hb8 : Hid (Below wr.heap.size wr (wr.alloc (.cells #[.int .i64 z, .slice D q d] 36))) := Lib.hid ((Below.refl _ _).alloc (Nat.le_refl _) _)
        have hs8 : wr.heap.size < (wr.alloc (.cells #[.int .i64 z, .slice D q d] 36)).heap.size := by simp
        generalize wr.alloc (.cells #[.int .i64 z, .slice D q d] 36) = w8 at *
        have Hown8 := Lib.hid (ownsRow_below Hown.out Hb8.out)
        obtain ⟨P0, hP0⟩ : ∃ P, wr.heap.size = P := ⟨_, rfl⟩
        rw [hP0] at Hrow hs8 ⊢
        have hP0w : w.heap.size ≤ P0 := by omega
        refine wp_region_held (S := fun w' => w'.cell? ⟨P0, 0, none⟩ = some (.int .i64 z) ∧ w'.cell? ⟨P0, 1, none⟩ = some (.slice D q d)) (by kernel_rfl) ?_
        change wpAnyH _ _ _ _ _ 10 #[false, false, false, false, false, false, false, false, false, false] _ w8.drew
        have y0 := cell_of_row _ _ 0 _ _ _ Hrow.out
        have y1 := cell_of_row _ _ 1 _ _ _ Hrow.out
        have hHeld : (fun w' : World => w'.cell? ⟨P0, 0, none⟩ = some (.int .i64 z) ∧ w'.cell? ⟨P0, 1, none⟩ = some (.slice D q d)) w8.drew := ⟨y0, y1⟩
        obtain ⟨w9, hw9⟩ : ∃ w9 : World, w9 = w8.drew := ⟨_, rfl⟩
        have Hrow9 : Hid (w9.heap[P0]? = some (.cells #[.int .i64 z, .slice D q d] 36 (0, 0))) := Lib.hid (by rw [hw9]; exact Hrow.out)
        have Hb9 : Hid (Below wr.heap.size wr w9) := Lib.hid (by rw [hw9]; exact Hb8.out.drew)
        have Hown9 : Hid (w9.ownsRow w.heap.size 56 2 (.slice VA k vc) k (prCells (((fcs l).take k).map fun f => (f.set, areaP f.rg)))) := Lib.hid (by rw [hw9]; exact Hown8.out)
        have hs9 : P0 < w9.heap.size := by rw [hw9]; exact hs8
        rw [← hw9] at hHeld ⊢
        clear hw9 y0 y1 Hrow Hb8 Hown8 hs8
        refine wpAnyH_take (i := 0) (v := ?vva0) rfl (by kernel_rfl) (by kernel_rfl) (by kernel_rfl) (fun _ _ _ h => h) (Or.inl ⟨by rfl, ?hya0⟩) hHeld ?resta0; (case hya0 => (intro w hSw; (try dsimp only at hSw); go_simp; all_goals (with_reducible rfl))); simp only [Act.put, List.getElem_toArray, List.getElem_cons_zero, List.getElem_cons_succ, List.setIfInBounds_toArray, List.set_cons_zero, List.set_cons_succ]
        refine wpAnyH_take (i := 1) (v := ?vva1) rfl (by kernel_rfl) (by kernel_rfl) (by kernel_rfl) (fun _ _ _ h => h) (Or.inl ⟨by rfl, ?hya1⟩) hHeld ?resta1; (case hya1 => (intro w hSw; (try dsimp only at hSw); go_simp; all_goals (with_reducible rfl))); simp only [Act.put, List.getElem_toArray, List.getElem_cons_zero, List.getElem_cons_succ, List.setIfInBounds_toArray, List.set_cons_zero, List.set_cons_succ]
        refine wpAnyH_take (i := 2) (v := ?vva2) rfl (by kernel_rfl) (by kernel_rfl) (by kernel_rfl) (fun _ _ _ h => h) (Or.inl ⟨by rfl, ?hya2⟩) hHeld ?resta2; (case hya2 => (intro w hSw; (try dsimp only at hSw); go_simp; all_goals (with_reducible rfl))); simp only [Act.put, List.getElem_toArray, List.getElem_cons_zero, List.getElem_cons_succ, List.setIfInBounds_toArray, List.set_cons_zero, List.set_cons_succ]
        refine wpAnyH_take (i := 3) (v := ?vva3) rfl (by kernel_rfl) (by kernel_rfl) (by kernel_rfl) (fun _ _ _ h => h) (Or.inl ⟨by rfl, ?hya3⟩) hHeld ?resta3; (case hya3 => (intro w hSw; (try dsimp only at hSw); go_simp; all_goals (with_reducible rfl))); simp only [Act.put, List.getElem_toArray, List.getElem_cons_zero, List.getElem_cons_succ, List.setIfInBounds_toArray, List.set_cons_zero, List.set_cons_succ]
        refine wpAnyH_take (i := 4) (v := ?vva4) rfl (by kernel_rfl) (by kernel_rfl) (by kernel_rfl) (fun _ _ _ h => h) (Or.inl ⟨by rfl, ?hya4⟩) hHeld ?resta4; (case hya4 => (intro w hSw; (try dsimp only at hSw); go_simp; all_goals (with_reducible rfl))); simp only [Act.put, List.getElem_toArray, List.getElem_cons_zero, List.getElem_cons_succ, List.setIfInBounds_toArray, List.set_cons_zero, List.set_cons_succ]
        refine wpAnyH_ready (rs := [5]) (by kernel_rfl) (by simp) ?_; refine AllReadyH.cons rfl (fun K hK => ?_) AllReadyH.nil
        go_simp
        refine (Har.out _ Hb9.out).mono ?_
        rintro e w5 ⟨rfl, hb5⟩
        have hrow5 := (hb5.block P0 hs9).trans Hrow9.out
        have Hb5 := Lib.hid hb5
        have Hown5 := Lib.hid (ownsRow_below Hown9.out hb5)
        have hs5 := hb5.size
        refine hK.out _ _ ⟨cell_of_row _ _ 0 _ _ _ hrow5, cell_of_row _ _ 1 _ _ _ hrow5⟩ (fun hHeld => ?_)
        have Hrow5 := Lib.hid hrow5
        clear hK K hrow5 hb5
        try simp only [Act.put, List.getElem_toArray, List.getElem_cons_zero, List.getElem_cons_succ, List.setIfInBounds_toArray, List.set_cons_zero, List.set_cons_succ]
        refine wpAnyH_take (i := 6) (v := ?vva6) rfl (by kernel_rfl) (by kernel_rfl) (by kernel_rfl) (fun _ _ _ h => h) (Or.inl ⟨by rfl, ?hya6⟩) hHeld ?resta6; (case hya6 => (intro w hSw; (try dsimp only at hSw); go_simp; all_goals (with_reducible rfl))); simp only [Act.put, List.getElem_toArray, List.getElem_cons_zero, List.getElem_cons_succ, List.setIfInBounds_toArray, List.set_cons_zero, List.set_cons_succ]
        refine wpAnyH_ready (rs := [7]) (by kernel_rfl) (by simp) ?_; refine AllReadyH.cons rfl (fun K hK => ?_) AllReadyH.nil
        go_simp
        have hrow6 : (w5.alloc (.cells #[.int .i64 z, .int .i64 ar] 56)).heap[P0]? = _ := (Below.heap_alloc _ _ _ (by omega)).trans Hrow5.out
        refine hK.out _ _ ⟨cell_of_row _ _ 0 _ _ _ hrow6, cell_of_row _ _ 1 _ _ _ hrow6⟩ (fun hHeld => ?_)
        clear hK K hrow6
        try simp only [Act.put, List.getElem_toArray, List.getElem_cons_zero, List.getElem_cons_succ, List.setIfInBounds_toArray, List.set_cons_zero, List.set_cons_succ]
        refine wpAnyH_ready (rs := [8]) (by kernel_rfl) (by simp) ?_; refine AllReadyH.cons rfl (fun K hK => ?_) AllReadyH.nil
        refine step_append_any _ rfl (.tmp 19) (.tmp 26) 53 rfl w.heap.size 56 i0 (.agg #[.int .i64 0, .int .i64 0]) 2 16 Tryz.underlying53 hi hz0 hz1 hz2 rfl (by omega) (.slice VA k vc) k (prCells (((fcs l).take k).map fun f => (f.set, areaP f.rg))) rfl (Hown5.out.alloc _) (w5.heap.size + 1) _ 1 1 [.int .i64 z, .int .i64 ar] rfl ⟨rfl, fun _ => ⟨_, rfl, Nat.lt_succ_self _, fun j u hu => (by exact World.news_of_block (heap_alloc_new w5 (.cells #[.int .i64 z, .int .i64 ar] 56)) j u hu)⟩⟩ (by simp [Value.oneCell']) (by simp only [maxLen]; omega) (by omega) (by have := Hb9.out.size; simp; omega) ?_
        intro v7 w7 hown7 hg7 hat7
        have hob := own_base Hown5.out
        have hP05 : (Value.slice VA k vc).ownBlock ≠ some P0 := fun e => by have := own_lt Hown.out _ e; omega
        have hrow7 := (hg7.block P0 (by simp; omega) (fun e => hP05 e.symm)).trans ((Below.heap_alloc _ _ _ (by omega)).trans Hrow5.out)
        obtain ⟨VB, vd, rfl, _, _, _⟩ := own_slice hown7
        have Hown7 := Lib.hid hown7
        have hsw9 := Hb9.out.size
        have Hb7 : Hid (Below w.heap.size w w7) := Lib.hid (((Hbr.out.trans ((Hb9.out.trans (Hb5.out.mono hsw9)).mono hsr)).alloc (by omega) _).grown hg7 (by simp; omega) (fun b e => hob b e))
        refine hK.out _ _ ⟨cell_of_row _ _ 0 _ _ _ hrow7, cell_of_row _ _ 1 _ _ _ hrow7⟩ (fun hHeld => ?_)
        clear hK K hrow7 hown7 hg7 hat7 hob hP05
        try simp only [Act.put, List.getElem_toArray, List.getElem_cons_zero, List.getElem_cons_succ, List.setIfInBounds_toArray, List.set_cons_zero, List.set_cons_succ]
        refine wpAnyH_take (i := 9) (v := ?vva9) rfl (by kernel_rfl) (by kernel_rfl) (by kernel_rfl) (fun _ _ _ h => h) (Or.inl ⟨by rfl, ?hya9⟩) hHeld ?resta9; (case hya9 => (intro w hSw; (try dsimp only at hSw); go_simp; all_goals (with_reducible rfl))); simp only [Act.put, List.getElem_toArray, List.getElem_cons_zero, List.getElem_cons_succ, List.setIfInBounds_toArray, List.set_cons_zero, List.set_cons_succ]
        refine wpAnyH_done (by kernel_rfl) ?_ _
        clear hHeld
        go_wp2
        go_roundw
        case rel => exact ⟨k + 1, by go_num, by omega, by rw [Hnx.out]; exact Hown7.out, Hb7.out⟩
        case measure => simp [intOf]; omega
      · obtain rfl : k = n := by omega
        go_wp2
        go_ret2
        rw [Hres.out, if_pos trivial]
        refine ⟨_, rfl, ?_, Hbr.out⟩
        have := Hown.out
        rw [List.take_of_length_le (by rw [Hlen.out]; exact Nat.le_refl _)] at this
        rw [List.length_map, Hlen.out]
        exact this
  · go_wp2_with (first | (go_at_call 44; refine Hck.out.mono ?_; rintro e w1 ⟨rfl, hb1⟩) | fail)
    go_ret2
    rw [Hres.out, if_neg her]
    exact ⟨_, rfl, World.ownsRow_nil _ _ _ _, hb1⟩

def pickF (s : Int) (f : Fc) : Bool := decide (0 ≤ s) && decide (bits BinOp.and IntKind.i64 f.set s = s)
def pickP (F : List Fc) (s : Int) : List R4 := (F.filter (pickF s)).flatMap Fc.rg
def commonFP (F : List Fc) (s : Int) : List R4 × Int := if checkFP F = 0 then limP (canonP (pickP F s)) else ([], checkFP F)
theorem pickP_snoc (F : List Fc) (f : Fc) (s : Int) : pickP (F ++ [f]) s = if pickF s f then pickP F s ++ f.rg else pickP F s := by
  unfold pickP
  rw [List.filter_append]
  cases h : pickF s f <;> simp [h]
theorem pickP_le (F : List Fc) (s : Int) (k : Nat) : (pickP (F.take k) s).length ≤ (F.flatMap Fc.rg).length := by
  have h1 : ∀ F : List Fc, (pickP F s).length ≤ (F.flatMap Fc.rg).length := by
    intro F
    induction F with
    | nil => exact Nat.le_refl _
    | cons a t ih =>
      have : pickP (a :: t) s = if pickF s a then a.rg ++ pickP t s else pickP t s := by
        unfold pickP
        cases h : pickF s a <;> simp [h]
      rw [this, List.flatMap_cons, List.length_append]
      split
      · rw [List.length_append]; omega
      · omega
  refine Nat.le_trans (h1 _) ?_
  conv => rhs; rw [← List.take_append_drop k F]
  rw [List.flatMap_append, List.length_append]
  omega
theorem check_ok {F : List Fc} (h : checkFP F = 0) : F.length ≤ 200 ∧ F.all (fun f => validP f.rg) = true ∧ ascF F = true := by
  unfold checkFP at h
  split at h
  · cases h
  · rename_i h1
    split at h
    · rename_i h2
      split at h
      · rename_i h3
        exact ⟨by omega, h2, h3⟩
      · cases h
    · cases h
theorem pickP_pos {F : List Fc} (h : checkFP F = 0) (s : Int) : ∀ q ∈ pickP F s, q.l < q.r := by
  intro q hq
  obtain ⟨f, hf, hq⟩ := List.mem_flatMap.1 hq
  exact ok_pos (valid_parts (List.all_eq_true.1 (check_ok h).2.1 f (List.mem_filter.1 hf).1)).2.1 q hq

set_option maxHeartbeats 4000000 in
set_option maxRecDepth 100000 in
theorem commonF_any (A : Option Addr) (n c : Nat) (l : FL) (s : Int) (w : World) (hA : SlF w A n c l) (hn200 : n ≤ 1000) (hN : ((fcs l).flatMap Fc.rg).length ≤ 50000) (hcut : checkFP (fcs l) = 0 → (cutsP (pickP (fcs l) s)).length ≤ 100) :
    Calls Tryz.prog 20 #[.slice A n c, .int .i64 s] w (RegPost w (commonFP (fcs l) s)) := by
  obtain ⟨i0, hi, hz0, hz1, hz2⟩ := info_parts Tryz.infoRect
  have hlen : (fcs l).length = n := by rw [fcs, List.length_map]; exact hA.len
  have HA := Lib.hid hA
  have Hck := Lib.hid (fun W (hW : Below w.heap.size w W) => check_any A n c l W (hA.below hW))
  have Hres : Hid (commonFP (fcs l) s = if checkFP (fcs l) = 0 then limP (canonP (pickP (fcs l) s)) else ([], checkFP (fcs l))) := Lib.hid rfl
  have Hlen := Lib.hid hlen
  have Hcut := Lib.hid hcut
  have Hpos := Lib.hid (pickP_pos (F := fcs l) (s := s))
  have Hpl := Lib.hid (fun k => Nat.le_trans (pickP_le (fcs l) s k) hN)
  generalize commonFP (fcs l) s = res at *
  generalize checkFP (fcs l) = er at *
  clear hA hlen hcut hN
  go_enter Tryz.func20, Tryz.ntmps20
  by_cases her : er = 0
  · subst her
    have Hpos0 := Lib.hid (Hpos.out rfl)
    have Hcut0 := Lib.hid (Hcut.out rfl)
    have Hr : Hid (res = limP (canonP (pickP (fcs l) s))) := Lib.hid (by rw [Hres.out, if_pos rfl])
    clear Hpos Hcut Hres
    go_upto_region 6 with (first
      | (go_at_call 44
         refine (Hck.out _ (by repeat' (first | with_reducible exact Below.refl _ _ | with_reducible refine below_drewN ?_ _ | with_reducible refine Below.drew ?_ | with_reducible refine Below.alloc ?_ ?_ _ | with_reducible refine Below.setCell ?_ ?_ _ | with_reducible refine Below.trans ?_ (Below.mono (by with_reducible assumption) ?_) | (simp; done) | (simp; omega) | omega))).mono ?_
         rintro e w1 ⟨rfl, hb1⟩
         have Hx : Hid (w1.heap[w.heap.size]? = some (.cells #[.slice none 0 0] 34 (0, 0))) := Lib.hid ((hb1.block _ (by simp)).trans (heap_alloc_new w _))
         have Hb1 : Hid (Below w.heap.size w w1) := Lib.hid (show Below w.heap.size w w1 from (by have hbq := hb1; exact (by repeat' (first | with_reducible exact Below.refl _ _ | with_reducible assumption | with_reducible refine below_drewN ?_ _ | with_reducible refine Below.drew ?_ | with_reducible refine Below.alloc ?_ ?_ _ | with_reducible refine Below.setCell ?_ ?_ _ | with_reducible refine Below.trans ?_ (Below.mono (by with_reducible assumption) ?_) | with_reducible refine below_only ?_ (by with_reducible assumption) ?_ ?_ | (simp; done) | (simp; omega) | omega))))
         have hs1 : w.heap.size < w1.heap.size := by have := hb1.size; simp at this; omega
         clear hb1)
      | fail)
    clear Hck
    go_loopw [7, 18] (fun v iv wr => ∃ k : Nat, iv = .int .i64 (k : Int) ∧ k ≤ n ∧ wr.ownsRow w1.heap.size 42 4 v (pickP ((fcs l).take k) s).length (rCells (pickP ((fcs l).take k) s)) ∧ Below w1.heap.size w1 wr) (fun _ iv _ => n - (intOf iv).toNat)
    case atStart => exact ⟨0, rfl, by omega, World.ownsRow_nil _ _ _ _, Below.refl _ _⟩
    case round =>
      obtain ⟨k, rfl, hkn, hown, hbr⟩ := hrel
      have Hbr := Lib.hid hbr
      have hsr := hbr.size
      have Hown := Lib.hid hown
      obtain ⟨VA, vc, hv, hS⟩ := SlR.of_own hown
      subst hv
      have HS := Lib.hid hS
      clear hbr hown hS
      by_cases hk : k < n
      · have hk' : (k : Int) < (n : Int) := by omega
        have hkl : k < l.length := by have := HA.out.len; omega
        obtain ⟨b, off, rfl, hb, c0, c1, hsl⟩ := ((HA.out.below Hb1.out).below Hbr.out).at k hkl
        have Hnx : Hid (pickP ((fcs l).take (k + 1)) s = if pickF s l[k].1 then pickP ((fcs l).take k) s ++ l[k].1.rg else pickP ((fcs l).take k) s) := Lib.hid (by
          rw [List.take_succ_eq_append_getElem (by rw [Hlen.out]; exact hk), pickP_snoc]
          simp [fcs])
        have Hpk : Hid (pickF s l[k].1 = (decide (0 ≤ s) && decide (bits BinOp.and IntKind.i64 l[k].1.set s = s))) := Lib.hid rfl
        have hle := Hpl.out (k + 1)
        have hle0 := Hpl.out k
        obtain ⟨P, hP⟩ : ∃ P, pickP ((fcs l).take k) s = P := ⟨_, rfl⟩
        obtain ⟨P', hP'⟩ : ∃ P, pickP ((fcs l).take (k + 1)) s = P := ⟨_, rfl⟩
        rw [hP] at HS Hown Hnx hle0 ⊢
        rw [hP'] at Hnx hle
        have HP' := Lib.hid hP'
        have Hrd := Lib.hid (hsl.lies.reads (size := 4) (by rw [rCells_len]))
        obtain ⟨z, hz⟩ : ∃ z, l[k].1.set = z := ⟨_, rfl⟩
        obtain ⟨D, hD⟩ : ∃ D, l[k].2.a = D := ⟨_, rfl⟩
        obtain ⟨rg, hrg⟩ : ∃ rg, l[k].1.rg = rg := ⟨_, rfl⟩
        obtain ⟨d, hd⟩ : ∃ d, l[k].2.c = d := ⟨_, rfl⟩
        obtain ⟨pk, hpk⟩ : ∃ pk, pickF s l[k].1 = pk := ⟨_, rfl⟩
        rw [hpk, hrg] at Hnx
        rw [hpk, hz] at Hpk
        rw [hD, hrg] at Hrd
        rw [hz] at c0
        rw [hD, hrg, hd] at c1
        clear hP hP' hz hD hrg hd hpk hsl
        have Hq : Hid (P' = if pk then P ++ rg else P) := Lib.hid Hnx.out
        obtain ⟨q, hq⟩ : ∃ q, rg.length = q := ⟨_, rfl⟩
        obtain ⟨pn, hpn⟩ : ∃ pn, P.length = pn := ⟨_, rfl⟩
        rw [hq] at c1 Hrd
        rw [hpn] at Hown HS ⊢
        have Hqn := Lib.hid hq
        have Hpn := Lib.hid hpn
        have hpq : pk = true → pn + q ≤ 50000 := fun h => by have := hle; rw [Hq.out, h, if_pos rfl, List.length_append] at this; omega
        have hpn5 : pn ≤ 50000 := by omega
        clear hq hpn
        by_cases h0 : 0 ≤ s
        · by_cases h1 : bits BinOp.and IntKind.i64 z s = s
          · have hpk : pk = true := by rw [Hpk.out]; simp [h0, h1]
            have hpq' := hpq hpk
            have Hq' : Hid (P' = P ++ rg) := Lib.hid (by rw [Hq.out, hpk, if_pos rfl])
            clear Hq hpk hpq Hpk
            go_wp2_with (first
              | (at_builtin
                 refine wpList_append_any _ rfl (.tmp 32) (.tmp 35) _ rfl w1.heap.size 42 i0 _ 4 32 Tryz.underlying32 hi hz0 hz1 hz2 rfl (by omega) _ pn (rCells P) rfl (World.ownsRow.alloc Hown.out _) wr.heap.size _ q d (rCells rg) rfl (Hrd.out.below ((Below.refl _ _).alloc (Nat.le_refl _) _)) (rCells_one rg) (by simp only [maxLen]; omega) (by omega) (by simp; omega) ?_
                 intro v6 w6 hown6 hg6 hat6
                 have hob := own_base Hown.out
                 obtain ⟨VB, vd, rfl, _, _, _⟩ := own_slice hown6
                 have Hown6 := Lib.hid hown6
                 have Hb6 : Hid (Below w1.heap.size w1 w6) := Lib.hid ((Hbr.out.alloc hsr _).grown hg6 (by simp; omega) (fun b e => hob b e))
                 clear hown6 hg6 hat6 hob)
              | fail)
            go_roundw
            case rel => exact ⟨k + 1, by go_num, by omega, by
              rw [HP'.out, Hq'.out, List.length_append, Hpn.out, Hqn.out, show rCells (P ++ rg) = rCells P ++ rCells rg by simp [rCells]]
              exact Hown6.out, Hb6.out⟩
            case measure => simp [intOf]; omega
          · have h1' : (bits BinOp.and IntKind.i64 z s == s) = false := by simpa using h1
            have Hq' : Hid (P' = P) := Lib.hid (by rw [Hq.out, Hpk.out]; simp [h1])
            clear Hq hpq Hpk
            go_wp2
            go_roundw
            case rel => exact ⟨k + 1, by go_num, by omega, by rw [HP'.out, Hq'.out, Hpn.out]; exact Hown.out.alloc _, Hbr.out.alloc hsr _⟩
            case measure => simp [intOf]; omega
        · have h0' : ¬ 0 ≤ s := h0
          have Hq' : Hid (P' = P) := Lib.hid (by rw [Hq.out, Hpk.out]; simp [h0])
          clear Hq hpq Hpk
          go_wp2
          go_roundw
          case rel => exact ⟨k + 1, by go_num, by omega, by rw [HP'.out, Hq'.out, Hpn.out]; exact Hown.out.alloc _, Hbr.out.alloc hsr _⟩
          case measure => simp [intOf]; omega
      · obtain rfl : k = n := by omega
        have htk : (fcs l).take k = fcs l := List.take_of_length_le (by rw [Hlen.out]; exact Nat.le_refl _)
        rw [htk] at HS Hown ⊢
        have Hle := Lib.hid (by have := Hpl.out k; rw [htk] at this; exact this)
        clear htk
        obtain ⟨P, hP⟩ : ∃ P, pickP (fcs l) s = P := ⟨_, rfl⟩
        rw [hP] at HS Hown Hle Hpos0 Hcut0 Hr ⊢
        clear hP
        have Hj := Lib.hid (joined_big VA P.length vc P wr HS.out Hle.out Hcut0.out Hpos0.out)
        rw [← Hr.out] at Hj
        obtain ⟨cl, er⟩ := res
        have Hxr : Hid (wr.heap[w.heap.size]? = some (.cells #[.slice none 0 0] 34 (0, 0))) := Lib.hid ((Hbr.out.block _ hs1).trans Hx.out)
        have hwr : w.heap.size < wr.heap.size := by omega
        go_wp2_with (first
          | (go_at_call 31
             refine Hj.out.mono ?_
             rintro e w2 ⟨v2, rfl, hown2, hb2⟩
             obtain ⟨E, ec, rfl, _⟩ := SlR.of_own hown2
             have hx2 := (hb2.block _ hwr).trans Hxr.out
             have x0 := cell_of_row _ _ 0 _ _ _ hx2
             have f0 := frozen_of_row _ _ 0 _ _ hx2
             have csame : (w2.setCell ⟨w.heap.size, 0, none⟩ (.slice E cl.length ec)).cell? ⟨w.heap.size, 0, none⟩ = some (.slice E cl.length ec) := World.cell?_setCell_same' _ _ _ (by rw [x0]; rfl)
             have Hown2 := Lib.hid hown2
             have Hb2 := Lib.hid hb2
             clear hown2 hb2 hx2)
          | fail)
        refine bodyPost_ret (v := .tuple #[.agg #[.slice E cl.length ec], .int .i64 er]) (by simp [results, Tryz.results20, go_sem, *]) rfl ?_
        exact ⟨_, rfl, own_rebase (ownsRow_setCell_below Hown2.out (a := ⟨w.heap.size, 0, none⟩) hwr _) (by omega), ((Hb1.out.trans (Hbr.out.mono (by omega))).trans (Hb2.out.mono (by omega))).setCell (by show w.heap.size ≤ w.heap.size; omega) _⟩
  · go_wp2_with (first
      | (go_at_call 44
         refine (Hck.out _ (by repeat' (first | with_reducible exact Below.refl _ _ | with_reducible refine below_drewN ?_ _ | with_reducible refine Below.drew ?_ | with_reducible refine Below.alloc ?_ ?_ _ | with_reducible refine Below.setCell ?_ ?_ _ | with_reducible refine Below.trans ?_ (Below.mono (by with_reducible assumption) ?_) | (simp; done) | (simp; omega) | omega))).mono ?_
         rintro e w1 ⟨rfl, hb1⟩
         have hx1 : w1.heap[w.heap.size]? = some (.cells #[.slice none 0 0] 34 (0, 0)) := (hb1.block _ (by simp)).trans (heap_alloc_new w _)
         have x0 := cell_of_row _ _ 0 _ _ _ hx1
         have f0 := frozen_of_row _ _ 0 _ _ hx1
         have csame : (w1.setCell ⟨w.heap.size, 0, none⟩ (.slice none 0 0)).cell? ⟨w.heap.size, 0, none⟩ = some (.slice none 0 0) := World.cell?_setCell_same' _ _ _ (by rw [x0]; rfl)
         have Hb1 : Hid (Below w.heap.size w w1) := Lib.hid (show Below w.heap.size w w1 from (by have hbq := hb1; exact (by repeat' (first | with_reducible exact Below.refl _ _ | with_reducible assumption | with_reducible refine below_drewN ?_ _ | with_reducible refine Below.drew ?_ | with_reducible refine Below.alloc ?_ ?_ _ | with_reducible refine Below.setCell ?_ ?_ _ | with_reducible refine Below.trans ?_ (Below.mono (by with_reducible assumption) ?_) | with_reducible refine below_only ?_ (by with_reducible assumption) ?_ ?_ | (simp; done) | (simp; omega) | omega))))
         clear hb1 hx1)
      | fail)
    refine bodyPost_ret (v := .tuple #[.agg #[.slice none 0 0], .int .i64 er]) (by simp [results, Tryz.results20, go_sem, *]) rfl ?_
    rw [Hres.out, if_neg her]
    exact ⟨_, rfl, World.ownsRow_nil _ _ _ _, Hb1.out.setCell (by show w.heap.size ≤ w.heap.size; omega) _⟩
end Go.Proofs.YtabcadpfhachoaaGreat
