/- Contract: Grassy (keep): the walk. -/
import Derived.Laws.EntriesVeiled
import Derived.Test.YtfmkmhhghmdakaaGreatDoorQC
import Derived.Test.YtfmkmhhghmdakaaGreatDoorQH
import Derived.Test.YtfmkmhhghmdakaaGreatDoorQJ
import Derived.Test.YtfmkmhhghmdakaaGreatDoorQM
namespace Go.Proofs.YtfmkmhhghmdakaaGreatDoor
open Go.RowKit Go.Shelf
set_option linter.unusedVariables false
set_option linter.unusedSimpArgs false

theorem rects_take (l : List Rc) (y : Int) (p : Int → Bool) (k : Nat) (h : k < l.length) : rectsP (l.take (k + 1)) y p = rectsP (l.take k) y p ++ (if l[k].yr = y ∧ p l[k].cr = true then l[k].rg else []) := by
  unfold rectsP
  rw [List.take_succ_eq_append_getElem h, List.flatMap_append, List.flatMap_cons, List.flatMap_nil, List.append_nil]
theorem rects_le (y : Int) (p : Int → Bool) : ∀ {l : List Rc}, (∀ x ∈ l, x.rg.length ≤ 81) → (rectsP l y p).length ≤ 81 * l.length
  | [], _ => Nat.zero_le _
  | x :: t, h => by
    have h1 := rects_le y p (l := t) fun z hz => h z (List.mem_cons_of_mem _ hz)
    have h2 := h x (by simp)
    have e : rectsP (x :: t) y p = (if x.yr = y ∧ p x.cr = true then x.rg else []) ++ rectsP t y p := by simp [rectsP]
    rw [e, List.length_append, List.length_cons]
    split <;> (try simp only [List.length_nil]) <;> omega
theorem SlR.rd4 {w : World} {A : Option Addr} {n c : Nat} {l : List R4} (h : SlR w A n c l) : Reads w w.heap.size 4 A n (rCells l) := h.lies.reads (size := 4) (by rw [rCells_len, h.len])
/-- A test of crops, that leaves what was there. -/
def CropFn (f : Nat) (la lb : Array Value) (p : Int → Bool) (w : World) : Prop :=
  ∀ W (c : Int), Below w.heap.size w W → 0 ≤ c → c < 3 → Calls Tryz.prog f (la ++ #[.int .i64 c] ++ lb) W fun e w' => e = .returned (.bool (p c)) ∧ Below W.heap.size W w'
theorem CropFn.below {f : Nat} {la lb : Array Value} {p : Int → Bool} {w w' : World} (h : CropFn f la lb p w) (hb : Below w.heap.size w w') : CropFn f la lb p w' := fun W c hW => h W c (hb.trans (hW.mono hb.size))

set_option maxHeartbeats 4000000 in
set_option maxRecDepth 100000 in
theorem rectsH_any (A : Option Addr) (n c : Nat) (l : RcL) (y : Int) (f : Nat) (la lb : Array Value) (p : Int → Bool) (w : World) (hA : SlRc w A n c l) (hl : HyR (rcs l)) (hn : n ≤ 24)
    (eg : ∀ args w, (callFunc f args).run Tryz.prog w = .ok (.enter f args) w) (hp : CropFn f la lb p w) :
    Calls Tryz.prog 100 #[.slice A n c, .int .i64 y, .func (.func f) la lb] w fun e w' => ∃ v, e = .returned v ∧ w'.ownsRow w.heap.size 68 4 v (rectsP (rcs l) y p).length (rCells (rectsP (rcs l) y p)) ∧ Below w.heap.size w w' := by
  obtain ⟨i0, hi, hz0, hz1, hz2⟩ := info_parts Tryz.infoRect
  have HA := Lib.hid hA
  have HL := Lib.hid hl
  have Hln := Lib.hid hA.len
  have HP := Lib.hid hp
  clear hA hl hp
  go_enter Tryz.func100, Tryz.ntmps100
  go_upto_region 3 with fail
  go_loopw [7, 9, 12] (fun lv _ iv wr => ∃ k : Nat, k ≤ n ∧ iv = .int .i64 (k : Int) ∧ wr.ownsRow w.heap.size 68 4 lv (rectsP ((rcs l).take k) y p).length (rCells (rectsP ((rcs l).take k) y p)) ∧ Below w.heap.size w wr) (fun _ _ iv _ => n - (intOf iv).toNat)
  case atStart => exact ⟨0, Nat.zero_le _, rfl, World.ownsRow_nil _ _ _ _, Below.refl _ _⟩
  case round =>
    obtain ⟨k, hk, rfl, hown, hbw⟩ := hrel
    obtain ⟨wo, rfl⟩ : ∃ wo : World, wo = wr := ⟨_, rfl⟩
    have Hown := Lib.hid hown
    have Hbw := Lib.hid hbw
    have hsw := hbw.size
    clear hown hbw
    by_cases hkn : k < n
    · have hkn' : (k : Int) < (n : Int) := by omega
      have hkl : k < l.length := by rw [Hln.out]; exact hkn
      obtain ⟨b, off, rfl, hbl, c0, c1, c2, hS⟩ := (HA.out.below Hbw.out).at k hkl
      have hmem : l[k].1 ∈ rcs l := List.mem_map_of_mem (List.getElem_mem hkl)
      have hc0 := (HL.out.hy.ok l[k].1 hmem).cr.1
      have hc3 := HL.out.cr l[k].1 hmem
      have hrl : l[k].1.rg.length ≤ 81 := (HL.out.reg l[k].1 hmem).len
      have Hs := Lib.hid (rects_take (rcs l) y p k (by rw [rcs_len]; exact hkl))
      rw [rcs_get l k hkl] at Hs
      have hPl : (rectsP ((rcs l).take k) y p).length ≤ 81 * 24 := by
        refine Nat.le_trans (rects_le y p fun x hx => (HL.out.reg x (List.mem_of_mem_take hx)).len) (Nat.mul_le_mul_left _ ?_)
        rw [List.length_take]; omega
      obtain ⟨x, hx⟩ : ∃ x, x = l[k] := ⟨_, rfl⟩
      rw [← hx] at c0 c1 c2 hS hrl hc0 hc3 Hs
      have HS := Lib.hid hS
      have HO := Lib.hid (fun W (h : Below w.heap.size w W) => HP.out W x.1.cr h hc0 hc3)
      obtain ⟨Y, hY⟩ : ∃ Y, x.1.yr = Y := ⟨_, rfl⟩
      obtain ⟨b2, hb2⟩ : ∃ b2, p x.1.cr = b2 := ⟨_, rfl⟩
      rw [hY, hb2] at Hs
      rw [hY] at c0
      simp only [hb2] at HO
      generalize rectsP ((rcs l).take k) y p = P at *
      clear hS hx hmem hc0 hc3 hY hb2
      go_upto_region 5 with fail
      obtain ⟨w1, hw1⟩ : ∃ w1 : World, w1 = wo.alloc (.cells #[.int .i64 Y, .int .i64 x.1.cr, .slice x.2.a x.1.rg.length x.2.c] 172) := ⟨_, rfl⟩
      rw [← hw1]
      have hr1 : w1.heap[wo.heap.size]? = some (.cells #[.int .i64 Y, .int .i64 x.1.cr, .slice x.2.a x.1.rg.length x.2.c] 172 (0, 0)) := by rw [hw1]; exact heap_alloc_new wo _
      have Hr1 := Lib.hid hr1
      have Hb1 : Hid (Below wo.heap.size wo w1) := Lib.hid (by rw [hw1]; exact (by repeat' (first | with_reducible exact Below.refl _ _ | with_reducible refine below_drewN ?_ _ | with_reducible refine Below.drew ?_ | with_reducible refine Below.alloc ?_ ?_ _ | with_reducible refine Below.setCell ?_ ?_ _ | with_reducible refine Below.trans ?_ (Below.mono (by with_reducible assumption) ?_) | (simp; done) | (simp; omega) | omega)))
      have hs1 : wo.heap.size < w1.heap.size := by rw [hw1]; simp
      have d0 := cell_of_row _ _ 0 _ _ _ hr1
      have d1 := cell_of_row _ _ 1 _ _ _ hr1
      have d2 := cell_of_row _ _ 2 _ _ _ hr1
      clear hw1 hr1 c0 c1 c2
      by_cases hyr : Y = y
      · have hyd : (Y == y) = true := by simp [hyr]
        have hyi : decide (Y = y) = true := decide_eq_true hyr
        have Hyr := Lib.hid hyr
        clear hyr
        cases b2 with
        | false =>
          go_wp2_with (first
            | (go_at_fn f
               refine (HO.out _ (Hbw.out.trans (Hb1.out.mono hsw))).mono ?_
               rintro e w3 ⟨rfl, hb3⟩
               have Hb3 := Lib.hid (Hb1.out.trans (hb3.mono (by omega)))
               clear hb3)
            | fail)
          go_roundw
          case rel => exact ⟨k + 1, by omega, by go_num, by rw [Hs.out, if_neg (fun h => by cases h.2), List.append_nil]; exact ownsRow_below Hown.out Hb3.out, Hbw.out.trans (Hb3.out.mono hsw)⟩
          case measure => simp [intOf]; omega
        | true =>
          go_wp2_with (first
            | (go_at_fn f
               refine (HO.out _ (Hbw.out.trans (Hb1.out.mono hsw))).mono ?_
               rintro e w3 ⟨rfl, hb3⟩
               have hr3 := (hb3.block wo.heap.size hs1).trans Hr1.out
               have Hb3 := Lib.hid (Hb1.out.trans (hb3.mono (by omega)))
               have hs3 : wo.heap.size ≤ w3.heap.size := Nat.le_trans (Nat.le_of_lt hs1) hb3.size
               have g2 := cell_of_row _ _ 2 _ _ _ hr3
               clear hb3 hr3 d0 d1 d2)
            | (at_builtin
               go_loud (refine wpList_append_any _ rfl (.tmp 26) (.tmp 29) _ rfl w.heap.size 68 i0 _ 4 32 Tryz.underlying31 hi hz0 hz1 hz2 rfl (by omega) _ P.length (rCells P) rfl (ownsRow_below Hown.out Hb3.out) wo.heap.size x.2.a x.1.rg.length x.2.c (rCells x.1.rg) rfl (HS.out.rd4.below Hb3.out) (rCells_one _) (by simp only [maxLen]; omega) (by omega) (Nat.le_trans hsw hs3) ?_)
               intro v5 w5 hown5 hg5 hat5
               have Hown5 := Lib.hid hown5
               have Hb5 := Lib.hid ((Hbw.out.trans (Hb3.out.mono hsw)).grown hg5 (Nat.le_trans hsw hs3) (own_base (ownsRow_below Hown.out Hb3.out)))
               clear hown5 hg5 hat5)
            | fail)
          go_roundw
          case rel => exact ⟨k + 1, by omega, by go_num, by rw [Hs.out, if_pos (by simp [Hyr.out]), List.length_append, rCells_app]; exact Hown5.out, Hb5.out⟩
          case measure => simp [intOf]; omega
      · have hyd : (Y == y) = false := by simp [hyr]
        have hyi : decide (Y = y) = false := decide_eq_false hyr
        have Hyr := Lib.hid hyr
        clear hyr
        go_wp2
        go_roundw
        case rel => exact ⟨k + 1, by omega, by go_num, by rw [Hs.out, if_neg (fun h => Hyr.out h.1), List.append_nil]; exact ownsRow_below Hown.out Hb1.out, Hbw.out.trans (Hb1.out.mono hsw)⟩
        case measure => simp [intOf]; omega
    · have hkn' : ¬ (k : Int) < (n : Int) := by omega
      have Hend : Hid ((rcs l).take k = rcs l) := Lib.hid (List.take_of_length_le (by rw [rcs_len, Hln.out]; omega))
      rw [Hend.out] at Hown
      go_wp2
      go_ret
      exact ⟨_, rfl, Hown.out, Hbw.out⟩
theorem any15_any (c : Int) (w : World) : Calls Tryz.prog 101 #[.int .i64 c] w fun e w' => e = .returned (.bool true) ∧ Below w.heap.size w w' := by
  go_enter Tryz.func101, Tryz.ntmps101
  go_wp2
  go_ret
  exact ⟨rfl, Below.refl _ _⟩
theorem wrong_any (y : Int) (w : World) (hy : 0 ≤ y ∧ y ≤ 100) : Calls Tryz.prog 99 #[.int .i64 y] w fun e w' => e = .returned (.bool false) ∧ w = w' := by
  have h1 : ¬ y < 0 := by omega
  have h2 : ¬ 100 < y := by omega
  go_enter Tryz.func99, Tryz.ntmps99
  go_wp2
  go_ret
  exact ⟨rfl, rfl⟩
/-- Grass is the first crop. -/
def grassB (c : Int) : Bool := decide (c = 0)
set_option maxHeartbeats 1000000 in
theorem cropHas_any (A : Option Addr) (c : Nat) (k : Int) (w : World) (hA : SlC w A 3 c grassy) (hk0 : 0 ≤ k) (hk3 : k < 3) : Calls Tryz.prog 104 #[.slice A 3 c, .int .i64 k, .int .i64 2] w fun e w' => e = .returned (.bool (grassB k)) ∧ w = w' := by
  obtain ⟨j, rfl⟩ : ∃ j : Nat, k = (j : Int) := ⟨k.toNat, by omega⟩
  have hj : j < grassy.length := by show j < 3; omega
  have hj3 : (j : Int) < 3 := hk3
  have hj0 : (0 : Int) ≤ (j : Int) := hk0
  obtain ⟨b, off, rfl, hb, c0, c1, c2⟩ := hA.at j hj
  have hm : grassy[j].mks = if j = 0 then 2 else 0 := by
    rcases j with _ | _ | _ | j
    · rfl
    · rfl
    · rfl
    · exfalso; have : j + 1 + 1 + 1 < 3 := hj; omega
  rw [hm] at c2
  by_cases h0 : j = 0
  · rw [if_pos h0] at c2
    have hg : grassB (j : Int) = true := by rw [h0]; rfl
    rw [hg]
    have bb : bits .and .i64 2 2 = 2 := and_i64n 2 2 (by decide) (by decide)
    clear h0 hm hg
    go_enter Tryz.func104, Tryz.ntmps104
    go_wp2
    go_ret
    exact ⟨rfl, rfl⟩
  · rw [if_neg h0] at c2
    have hg : grassB (j : Int) = false := by unfold grassB; simp; omega
    rw [hg]
    have bb : bits .and .i64 0 2 = 0 := and_i64n 0 2 (by decide) (by decide)
    clear h0 hm hg
    go_enter Tryz.func104, Tryz.ntmps104
    go_wp2
    go_ret
    exact ⟨rfl, rfl⟩
end Go.Proofs.YtfmkmhhghmdakaaGreatDoor
namespace Go.Proofs.YtfmkmhhghmdakaaGreatDoor
open Go.RowKit Go.Shelf
set_option linter.unusedVariables false
set_option linter.unusedSimpArgs false

theorem leq10 : leqS ⟨#[109, 97, 105, 122, 101]⟩ ⟨#[103, 114, 97, 115, 115]⟩ = false := by decide +kernel
theorem leq21 : leqS ⟨#[114, 121, 101]⟩ ⟨#[109, 97, 105, 122, 101]⟩ = false := by decide +kernel
theorem grassy_ok : cropsB grassy := by
  refine ⟨by decide, fun x hx => ?_, fun i h => ?_⟩
  · simp only [grassy, List.mem_cons, List.not_mem_nil, or_false] at hx
    rcases hx with rfl | rfl | rfl <;> exact ⟨by decide, by decide, by decide, by decide⟩
  · have h2 : i + 1 < 3 := h
    rcases (show i = 0 ∨ i = 1 by omega) with rfl | rfl
    · exact leq10
    · exact leq21
/-- The rectangles of a year, as a region. -/
theorem yearRg (l : List Rc) (h : HyR l) (y : Int) (p : Int → Bool) (A : Option Addr) (n c : Nat) (w : World) (hA : SlR w A n c (rectsP l y p)) : Calls Tryz.prog 76 #[.slice A n c] w (RegPost w (canonP (rectsP l y p), 0)) := by
  have h1 := joined_big A n c _ w hA (by have := hA.len; have := rects_len h y p; omega) (Nat.le_trans (cuts_side9 (rects_in h y p)) (by omega)) (rects_in h y p).pos
  have h2 := (canon_reg9 (rects_in h y p)).len
  unfold limP at h1
  rw [if_neg (by omega)] at h1
  exact h1
theorem listed1_any (x : Rc) (v : LV) (C : Option Addr) (cc g : Nat) (w : World) (hc : x.cr < 3) (hg : w.cell? ⟨g, 0, none⟩ = some (.slice C 3 cc)) (hgl : g < w.heap.size) :
    Calls Tryz.prog 201 #[.agg #[.int .i64 x.yr, .int .i64 x.cr, .slice v.a x.rg.length v.c], .pointer (some ⟨g, 0, none⟩)] w fun e w' => e = .returned (.bool false) ∧ Below w.heap.size w w' := by
  have h3 : ¬ (3 : Int) ≤ x.cr := by omega
  have Hg := Lib.hid hg
  clear hg
  go_enter Tryz.func201, Tryz.ntmps201
  go_upto_region 1 with fail
  obtain ⟨w1, hw1⟩ : ∃ w1 : World, w1 = w.alloc (.cells #[.int .i64 x.yr, .int .i64 x.cr, .slice v.a x.rg.length v.c] 172) := ⟨_, rfl⟩
  rw [← hw1]
  have hr1 : w1.heap[w.heap.size]? = some (.cells #[.int .i64 x.yr, .int .i64 x.cr, .slice v.a x.rg.length v.c] 172 (0, 0)) := by rw [hw1]; exact heap_alloc_new w _
  have Hb1 : Hid (Below w.heap.size w w1) := Lib.hid (by rw [hw1]; exact (by repeat' (first | with_reducible exact Below.refl _ _ | with_reducible refine below_drewN ?_ _ | with_reducible refine Below.drew ?_ | with_reducible refine Below.alloc ?_ ?_ _ | with_reducible refine Below.setCell ?_ ?_ _ | with_reducible refine Below.trans ?_ (Below.mono (by with_reducible assumption) ?_) | (simp; done) | (simp; omega) | omega)))
  have hg1 := (Hb1.out.cell (p := ⟨g, 0, none⟩) hgl).trans Hg.out
  have d1 := cell_of_row _ _ 1 _ _ _ hr1
  clear hw1 hr1
  go_wp2
  go_ret
  exact ⟨rfl, Hb1.out⟩
set_option maxHeartbeats 4000000 in
set_option maxRecDepth 100000 in
theorem listed_any (A : Option Addr) (n c : Nat) (l : RcL) (C : Option Addr) (cc : Nat) (w : World) (hA : SlRc w A n c l) (hl : HyR (rcs l)) (hC : SlC w C 3 cc grassy) :
    Calls Tryz.prog 102 #[.slice A n c, .slice C 3 cc] w fun e w' => e = .returned (.int .i64 0) ∧ Below w.heap.size w w' := by
  have eg : ∀ args w, (callFunc 201 args).run Tryz.prog w = .ok (.enter 201 args) w := enters_of Tryz.func201 (by kernel_rfl) rfl
  have HK := Lib.hid (fun W (h : Below w.heap.size w W) => checkHy_any A n c l W (hA.below h) hl.hy)
  have HCC := Lib.hid (fun W (h : Below w.heap.size w W) => cropCheck_any C 3 cc grassy W (hC.below h) grassy_ok)
  have HX := Lib.hid (fun W (h : Below w.heap.size w W) (g : Nat) (hg : W.cell? ⟨g, 0, none⟩ = some (.slice C 3 cc)) (hgl : g < W.heap.size) => show Calls Tryz.prog 116 #[.slice A n c, .func (.func 201) #[] #[.pointer (some ⟨g, 0, none⟩)]] W fun e w' => e = .returned (.bool false) ∧ Below W.heap.size W w' from by
    have h1 := containsRc_any 201 #[.pointer (some ⟨g, 0, none⟩)] (fun _ => false) A n c l W (hA.below h) eg (fun W2 hW2 x hx => by
      show Calls Tryz.prog 201 #[.agg #[.int .i64 x.1.yr, .int .i64 x.1.cr, .slice x.2.a x.1.rg.length x.2.c], .pointer (some ⟨g, 0, none⟩)] W2 _
      exact listed1_any x.1 x.2 C cc g W2 (hl.cr _ (List.mem_map_of_mem hx)) ((hW2.cell (p := ⟨g, 0, none⟩) hgl).trans hg) (Nat.lt_of_lt_of_le hgl hW2.size))
    rw [show l.any (fun _ => false) = false from by simp] at h1
    exact h1)
  clear hA hl hC eg
  go_enter Tryz.func102, Tryz.ntmps102
  go_upto_region 1 with fail
  obtain ⟨w1, hw1⟩ : ∃ w1 : World, w1 = w.alloc (.cells #[.slice C 3 cc] 29) := ⟨_, rfl⟩
  rw [← hw1]
  have Hr1 : Hid (w1.heap[w.heap.size]? = some (.cells #[.slice C 3 cc] 29 (0, 0))) := Lib.hid (by rw [hw1]; exact heap_alloc_new w _)
  have Hb1 : Hid (Below w.heap.size w w1) := Lib.hid (by rw [hw1]; exact (by repeat' (first | with_reducible exact Below.refl _ _ | with_reducible refine below_drewN ?_ _ | with_reducible refine Below.drew ?_ | with_reducible refine Below.alloc ?_ ?_ _ | with_reducible refine Below.setCell ?_ ?_ _ | with_reducible refine Below.trans ?_ (Below.mono (by with_reducible assumption) ?_) | (simp; done) | (simp; omega) | omega)))
  have hs1 : w.heap.size < w1.heap.size := by rw [hw1]; simp
  clear hw1
  go_wp2_with (first
    | (go_at_call 98
       refine (HK.out _ Hb1.out).mono ?_
       rintro e w2 ⟨rfl, hb2⟩
       have hr2 := (hb2.block w.heap.size hs1).trans Hr1.out
       have Hr2 := Lib.hid hr2
       have Hb2 := Lib.hid (Hb1.out.trans (hb2.mono (by omega)))
       have hs2 : w.heap.size < w2.heap.size := Nat.lt_of_lt_of_le hs1 hb2.size
       have e2 := cell_of_row _ _ 0 _ _ _ hr2
       clear hb2 hr2)
    | (go_at_call 124
       refine (HCC.out _ Hb2.out).mono ?_
       rintro e w3 ⟨rfl, hb3⟩
       have hr3 := (hb3.block w.heap.size hs2).trans Hr2.out
       have Hb3 := Lib.hid (Hb2.out.trans (hb3.mono (by omega)))
       have hs3 : w.heap.size < w3.heap.size := Nat.lt_of_lt_of_le hs2 hb3.size
       have He3 := Lib.hid (cell_of_row _ _ 0 _ _ _ hr3)
       clear hb3 hr3 e2)
    | (go_at_call 116
       refine (HX.out _ Hb3.out w.heap.size He3.out hs3).mono ?_
       rintro e w4 ⟨rfl, hb4⟩
       have Hb4 := Lib.hid (Hb3.out.trans (hb4.mono (by omega)))
       clear hb4)
    | fail)
  go_ret
  exact ⟨rfl, Hb4.out⟩
theorem marked1_any (k : Int) (C : Option Addr) (cc g : Nat) (w : World) (hC : SlC w C 3 cc grassy) (c0 : w.cell? ⟨g, 0, none⟩ = some (.slice C 3 cc)) (c1 : w.cell? ⟨g + 1, 0, none⟩ = some (.int .i64 2)) (hk0 : 0 ≤ k) (hk3 : k < 3) :
    Calls Tryz.prog 103 #[.int .i64 k, .pointer (some ⟨g, 0, none⟩), .pointer (some ⟨g + 1, 0, none⟩)] w fun e w' => e = .returned (.bool (grassB k)) ∧ w = w' := by
  have HH := Lib.hid (cropHas_any C cc k w hC hk0 hk3)
  clear hC
  go_enter Tryz.func103, Tryz.ntmps103
  go_wp2_with (first
    | (go_at_call 104; refine HH.out.mono ?_; rintro e w' ⟨rfl, rfl⟩)
    | fail)
  go_ret
  exact ⟨rfl, rfl⟩
set_option maxHeartbeats 4000000 in
set_option maxRecDepth 100000 in
theorem marked_any (A : Option Addr) (n c : Nat) (l : RcL) (C : Option Addr) (cc : Nat) (y : Int) (w : World) (hA : SlRc w A n c l) (hl : HyR (rcs l)) (hn : n ≤ 24) (hC : SlC w C 3 cc grassy) (hy : 0 ≤ y ∧ y ≤ 100) :
    Calls Tryz.prog 33 #[.slice A n c, .slice C 3 cc, .int .i64 y, .int .i64 2] w (RegPost w (canonP (rectsP (rcs l) y grassB), 0)) := by
  have eg : ∀ args w, (callFunc 103 args).run Tryz.prog w = .ok (.enter 103 args) w := enters_of Tryz.func103 (by kernel_rfl) rfl
  have HL := Lib.hid (fun W (h : Below w.heap.size w W) => listed_any A n c l C cc W (hA.below h) hl (hC.below h))
  have HW := Lib.hid (fun W => wrong_any y W hy)
  have HJ := Lib.hid (fun B m e W h => yearRg (rcs l) hl y grassB B m e W h)
  have HR := Lib.hid (fun W (h : Below w.heap.size w W) (g : Nat) (h0 : W.cell? ⟨g, 0, none⟩ = some (.slice C 3 cc)) (h1 : W.cell? ⟨g + 1, 0, none⟩ = some (.int .i64 2)) (hgl : g + 1 < W.heap.size) => rectsH_any A n c l y 103 #[] #[.pointer (some ⟨g, 0, none⟩), .pointer (some ⟨g + 1, 0, none⟩)] grassB W (hA.below h) hl hn eg (fun W2 k hW2 hk0 hk3 => by
    show Calls Tryz.prog 103 #[.int .i64 k, .pointer (some ⟨g, 0, none⟩), .pointer (some ⟨g + 1, 0, none⟩)] W2 _
    refine (marked1_any k C cc g W2 (hC.below (h.trans (hW2.mono h.size))) ((hW2.cell (p := ⟨g, 0, none⟩) (by show g < _; omega)).trans h0) ((hW2.cell (p := ⟨g + 1, 0, none⟩) hgl).trans h1) hk0 hk3).mono ?_
    rintro e w' ⟨rfl, rfl⟩
    exact ⟨rfl, Below.refl _ _⟩))
  clear hA hl hC eg hy
  generalize rectsP (rcs l) y grassB = P at *
  generalize canonP P = R at *
  go_enter Tryz.func33, Tryz.ntmps33
  go_upto_region 1 with fail
  obtain ⟨w1, hw1⟩ : ∃ w1 : World, w1 = ((w.alloc (.cells #[.slice C 3 cc] 29)).alloc (.cells #[.int .i64 2] 3)).alloc (.cells #[.slice none 0 0] 33) := ⟨_, rfl⟩
  rw [← hw1]
  have Hr1 : Hid (w1.heap[w.heap.size]? = some (.cells #[.slice C 3 cc] 29 (0, 0))) := Lib.hid (by rw [hw1]; exact (Below.heap_alloc _ _ _ (by simp; omega)).trans ((Below.heap_alloc _ _ _ (by simp)).trans (heap_alloc_new w _)))
  have Hq1 : Hid (w1.heap[w.heap.size + 1]? = some (.cells #[.int .i64 2] 3 (0, 0))) := Lib.hid (by rw [hw1]; exact (Below.heap_alloc _ _ _ (by simp)).trans (heap_alloc2_new w _ _))
  have Hz1 : Hid (w1.heap[w.heap.size + 1 + 1]? = some (.cells #[.slice none 0 0] 33 (0, 0))) := Lib.hid (by rw [hw1]; have h3 := heap_alloc_new ((w.alloc (.cells #[.slice C 3 cc] 29)).alloc (.cells #[.int .i64 2] 3)) (.cells #[.slice none 0 0] 33); simpa using h3)
  have Hb1 : Hid (Below w.heap.size w w1) := Lib.hid (by rw [hw1]; exact (by repeat' (first | with_reducible exact Below.refl _ _ | with_reducible refine below_drewN ?_ _ | with_reducible refine Below.drew ?_ | with_reducible refine Below.alloc ?_ ?_ _ | with_reducible refine Below.setCell ?_ ?_ _ | with_reducible refine Below.trans ?_ (Below.mono (by with_reducible assumption) ?_) | (simp; done) | (simp; omega) | omega)))
  have hs1 : w.heap.size + 1 + 1 < w1.heap.size := by rw [hw1]; simp
  have e1 := cell_of_row _ _ 0 _ _ _ Hr1.out
  clear hw1
  go_wp2_with (first
    | (go_at_call 102
       refine (HL.out _ Hb1.out).mono ?_
       rintro e w2 ⟨rfl, hb2⟩
       have Hr2 := Lib.hid (cell_of_row _ _ 0 _ _ _ ((hb2.block w.heap.size (by omega)).trans Hr1.out))
       have hq2 := cell_of_row _ _ 0 _ _ _ ((hb2.block (w.heap.size + 1) (by omega)).trans Hq1.out)
       have Hq2 := Lib.hid hq2
       have Hz2 := Lib.hid ((hb2.block (w.heap.size + 1 + 1) (by omega)).trans Hz1.out)
       have Hb2 := Lib.hid (Hb1.out.trans (hb2.mono (by omega)))
       have hs2 : w.heap.size + 1 + 1 < w2.heap.size := Nat.lt_of_lt_of_le hs1 hb2.size
       clear hb2 e1)
    | (go_at_call 99
       refine (HW.out _).mono ?_
       rintro e w' ⟨rfl, rfl⟩)
    | (go_at_call 100
       refine (HR.out _ Hb2.out w.heap.size Hr2.out Hq2.out (by omega)).mono ?_
       rintro e w3 ⟨v3, rfl, hown3, hb3⟩
       obtain ⟨B3, c3, rfl, hS3⟩ := SlR.of_own hown3
       have HS3 := Lib.hid hS3
       have Hz3 := Lib.hid ((hb3.block (w.heap.size + 1 + 1) (by omega)).trans Hz2.out)
       have Hb3 := Lib.hid (Hb2.out.trans (hb3.mono (by omega)))
       have hs3 : w.heap.size + 1 + 1 < w3.heap.size := Nat.lt_of_lt_of_le hs2 hb3.size
       clear hown3 hb3 hS3 hq2)
    | (go_at_call 76
       refine (HJ.out _ _ _ _ HS3.out).mono ?_
       rintro e w4 ⟨v4, rfl, hown4, hb4⟩
       dsimp only at hown4
       obtain ⟨A4, c4, rfl, _, _, _⟩ := own_slice hown4
       have Hown4 := Lib.hid (own_rebase (base' := w.heap.size + 1 + 1 + 1) hown4 (by omega))
       have hz4 := (hb4.block (w.heap.size + 1 + 1) (by omega)).trans Hz3.out
       have Hb4 := Lib.hid (Hb3.out.trans (hb4.mono (by omega)))
       have z0 := cell_of_row _ _ 0 _ _ _ hz4
       have f0 := frozen_of_row _ _ 0 _ _ hz4
       have csame : (w4.setCell ⟨w.heap.size + 1 + 1, 0, none⟩ (.slice A4 R.length c4)).cell? ⟨w.heap.size + 1 + 1, 0, none⟩ = some (.slice A4 R.length c4) := by
         rw [cell_of_row _ (w.heap.size + 1 + 1) 0 _ _ _ (heap_setCell_same w4 (w.heap.size + 1 + 1) 0 _ _ _ hz4)]
         simp
       clear hown4 hb4 hz4)
    | fail)
  refine bodyPost_ret (v := .tuple #[.agg #[.slice A4 R.length c4], .int .i64 0]) (by simp [results, Tryz.results33, go_sem, *]) rfl ?_
  refine ⟨_, rfl, ?_, Hb4.out.setCell (by show w.heap.size ≤ w.heap.size + 1 + 1; omega) _⟩
  exact own_other (own_rebase Hown4.out (by omega)) (only_setCell (g := w.heap.size + 1 + 1) (World.grownBy.refl _ _) (.inl rfl) _) (fun k hk e => by injection e with e; have := own_base Hown4.out k hk; omega)
set_option maxHeartbeats 4000000 in
set_option maxRecDepth 100000 in
theorem known_any (A : Option Addr) (n c : Nat) (l : RcL) (y : Int) (w : World) (hA : SlRc w A n c l) (hl : HyR (rcs l)) (hn : n ≤ 24) (hy : 0 ≤ y ∧ y ≤ 100) :
    Calls Tryz.prog 32 #[.slice A n c, .int .i64 y] w (RegPost w (canonP (rectsP (rcs l) y fun _ => true), 0)) := by
  have eg : ∀ args w, (callFunc 101 args).run Tryz.prog w = .ok (.enter 101 args) w := enters_of Tryz.func101 (by kernel_rfl) rfl
  have HL := Lib.hid (fun W (h : Below w.heap.size w W) => checkHy_any A n c l W (hA.below h) hl.hy)
  have HW := Lib.hid (fun W => wrong_any y W hy)
  have HJ := Lib.hid (fun B m e W h => yearRg (rcs l) hl y (fun _ => true) B m e W h)
  have HR := Lib.hid (fun W (h : Below w.heap.size w W) => rectsH_any A n c l y 101 #[] #[] (fun _ => true) W (hA.below h) hl hn eg (fun W2 k hW2 hk0 hk3 => by
    show Calls Tryz.prog 101 #[.int .i64 k] W2 _
    exact any15_any k W2))
  clear hA hl eg hy
  generalize rectsP (rcs l) y (fun _ => true) = P at *
  generalize canonP P = R at *
  go_enter Tryz.func32, Tryz.ntmps32
  go_upto_region 1 with fail
  obtain ⟨w1, hw1⟩ : ∃ w1 : World, w1 = w.alloc (.cells #[.slice none 0 0] 33) := ⟨_, rfl⟩
  rw [← hw1]
  have Hz1 : Hid (w1.heap[w.heap.size]? = some (.cells #[.slice none 0 0] 33 (0, 0))) := Lib.hid (by rw [hw1]; exact heap_alloc_new w _)
  have Hb1 : Hid (Below w.heap.size w w1) := Lib.hid (by rw [hw1]; exact (by repeat' (first | with_reducible exact Below.refl _ _ | with_reducible refine below_drewN ?_ _ | with_reducible refine Below.drew ?_ | with_reducible refine Below.alloc ?_ ?_ _ | with_reducible refine Below.setCell ?_ ?_ _ | with_reducible refine Below.trans ?_ (Below.mono (by with_reducible assumption) ?_) | (simp; done) | (simp; omega) | omega)))
  have hs1 : w.heap.size < w1.heap.size := by rw [hw1]; simp
  clear hw1
  go_wp2_with (first
    | (go_at_call 98
       refine (HL.out _ Hb1.out).mono ?_
       rintro e w2 ⟨rfl, hb2⟩
       have Hz2 := Lib.hid ((hb2.block w.heap.size (by omega)).trans Hz1.out)
       have Hb2 := Lib.hid (Hb1.out.trans (hb2.mono (by omega)))
       have hs2 : w.heap.size < w2.heap.size := Nat.lt_of_lt_of_le hs1 hb2.size
       clear hb2)
    | (go_at_call 99
       refine (HW.out _).mono ?_
       rintro e w' ⟨rfl, rfl⟩)
    | (go_at_call 100
       refine (HR.out _ Hb2.out).mono ?_
       rintro e w3 ⟨v3, rfl, hown3, hb3⟩
       obtain ⟨B3, c3, rfl, hS3⟩ := SlR.of_own hown3
       have HS3 := Lib.hid hS3
       have Hz3 := Lib.hid ((hb3.block w.heap.size (by omega)).trans Hz2.out)
       have Hb3 := Lib.hid (Hb2.out.trans (hb3.mono (by omega)))
       have hs3 : w.heap.size < w3.heap.size := Nat.lt_of_lt_of_le hs2 hb3.size
       clear hown3 hb3 hS3)
    | (go_at_call 76
       refine (HJ.out _ _ _ _ HS3.out).mono ?_
       rintro e w4 ⟨v4, rfl, hown4, hb4⟩
       dsimp only at hown4
       obtain ⟨A4, c4, rfl, _, _, _⟩ := own_slice hown4
       have Hown4 := Lib.hid (own_rebase (base' := w.heap.size + 1) hown4 (by omega))
       have hz4 := (hb4.block w.heap.size (by omega)).trans Hz3.out
       have Hb4 := Lib.hid (Hb3.out.trans (hb4.mono (by omega)))
       have z0 := cell_of_row _ _ 0 _ _ _ hz4
       have f0 := frozen_of_row _ _ 0 _ _ hz4
       have csame : (w4.setCell ⟨w.heap.size, 0, none⟩ (.slice A4 R.length c4)).cell? ⟨w.heap.size, 0, none⟩ = some (.slice A4 R.length c4) := by
         rw [cell_of_row _ w.heap.size 0 _ _ _ (heap_setCell_same w4 w.heap.size 0 _ _ _ hz4)]
         simp
       clear hown4 hb4 hz4)
    | fail)
  refine bodyPost_ret (v := .tuple #[.agg #[.slice A4 R.length c4], .int .i64 0]) (by simp [results, Tryz.results32, go_sem, *]) rfl ?_
  refine ⟨_, rfl, ?_, Hb4.out.setCell (Nat.le_refl _) _⟩
  exact own_other (own_rebase Hown4.out (by omega)) (only_setCell (g := w.heap.size) (World.grownBy.refl _ _) (.inl rfl) _) (fun k hk e => by injection e with e; have := own_base Hown4.out k hk; omega)
end Go.Proofs.YtfmkmhhghmdakaaGreatDoor
namespace Go.Proofs.YtfmkmhhghmdakaaGreatDoor
open Go.RowKit Go.Shelf
set_option linter.unusedVariables false
set_option linter.unusedSimpArgs false

theorem sharedB_fn (w : World) : BoolFn 270 #[] andB w := by
  intro W x y _
  show Calls Tryz.prog 270 #[.bool x, .bool y] W _
  cases x <;> cases y
  all_goals go_enter Tryz.func270, Tryz.ntmps270
  all_goals go_wp2
  all_goals go_ret
  all_goals exact ⟨rfl, (by repeat' (first | with_reducible exact Below.refl _ _ | with_reducible refine below_drewN ?_ _ | with_reducible refine Below.drew ?_ | with_reducible refine Below.alloc ?_ ?_ _ | with_reducible refine Below.setCell ?_ ?_ _ | with_reducible refine Below.trans ?_ (Below.mono (by with_reducible assumption) ?_) | (simp; done) | (simp; omega) | omega))⟩
theorem shared_any (A B : Option Addr) (n c m d : Nat) (a b : List R4) (w : World) (hA : SlR w A n c a) (hB : SlR w B m d b) (hn : n ≤ 750) (hm : m ≤ 750) (ha : ∀ q ∈ a, q.l < q.r) (hb : ∀ q ∈ b, q.l < q.r) :
    Calls Tryz.prog 195 #[.slice A n c, .slice B m d] w fun e w' => ∃ v, e = .returned v ∧ w'.ownsRow w.heap.size 68 4 v (chooseP andB a b).length (rCells (chooseP andB a b)) ∧ Below w.heap.size w w' := by
  have HC := Lib.hid (choose_any A B n c m d 270 #[] andB a b w hA hB hn hm ha hb (enters_of Tryz.func270 (by kernel_rfl) rfl) (sharedB_fn w))
  generalize chooseP andB a b = R at *
  clear hA hB ha hb
  go_enter Tryz.func195, Tryz.ntmps195
  go_wp2_with (first
    | (go_at_call 54; refine HC.out.mono ?_; rintro e w2 ⟨v, rfl, hown, hb⟩; have Hown := Lib.hid hown; have Hb := Lib.hid hb; clear hown hb)
    | fail)
  go_ret
  exact ⟨_, rfl, Hown.out, Hb.out⟩
theorem grass_any (A : Option Addr) (n c : Nat) (C : Option Addr) (cc : Nat) (k : Int) (w : World) (hC : SlC w C 3 cc grassy) (hk0 : 0 ≤ k) (hk3 : k < 3) :
    Calls Tryz.prog 197 #[.agg #[.slice A n c, .slice C 3 cc], .int .i64 k] w fun e w' => e = .returned (.bool (grassB k)) ∧ Below w.heap.size w w' := by
  have HH := Lib.hid (fun W (h : Below w.heap.size w W) => cropHas_any C cc k W (hC.below h) hk0 hk3)
  clear hC
  go_enter Tryz.func197, Tryz.ntmps197
  go_upto_region 1 with fail
  obtain ⟨w1, hw1⟩ : ∃ w1 : World, w1 = w.alloc (.cells #[.slice A n c, .slice C 3 cc] 153) := ⟨_, rfl⟩
  rw [← hw1]
  have hr1 : w1.heap[w.heap.size]? = some (.cells #[.slice A n c, .slice C 3 cc] 153 (0, 0)) := by rw [hw1]; exact heap_alloc_new w _
  have Hb1 : Hid (Below w.heap.size w w1) := Lib.hid (by rw [hw1]; exact (by repeat' (first | with_reducible exact Below.refl _ _ | with_reducible refine below_drewN ?_ _ | with_reducible refine Below.drew ?_ | with_reducible refine Below.alloc ?_ ?_ _ | with_reducible refine Below.setCell ?_ ?_ _ | with_reducible refine Below.trans ?_ (Below.mono (by with_reducible assumption) ?_) | (simp; done) | (simp; omega) | omega)))
  have d1 := cell_of_row _ _ 1 _ _ _ hr1
  clear hw1 hr1
  go_wp2_with (first
    | (go_at_call 104; refine (HH.out _ Hb1.out).mono ?_; rintro e w' ⟨rfl, rfl⟩)
    | fail)
  go_ret
  exact ⟨rfl, Hb1.out⟩
theorem notGrass_any (A : Option Addr) (n c : Nat) (C : Option Addr) (cc g : Nat) (k : Int) (w : World) (hC : SlC w C 3 cc grassy) (c0 : w.cell? ⟨g, 0, none⟩ = some (.slice A n c)) (c1 : w.cell? ⟨g, 1, none⟩ = some (.slice C 3 cc)) (hk0 : 0 ≤ k) (hk3 : k < 3) :
    Calls Tryz.prog 196 #[.int .i64 k, .pointer (some ⟨g, 0, none⟩)] w fun e w' => e = .returned (.bool (!grassB k)) ∧ Below w.heap.size w w' := by
  have HH := Lib.hid (grass_any A n c C cc k w hC hk0 hk3)
  generalize grassB k = b at *
  clear hC
  go_enter Tryz.func196, Tryz.ntmps196
  go_wp2_with (first
    | (go_at_call 197; refine HH.out.mono ?_; rintro e w2 ⟨rfl, hb2⟩; have Hb2 := Lib.hid hb2; clear hb2)
    | fail)
  go_ret
  exact ⟨rfl, Hb2.out⟩
theorem yearOk_any (y : Int) (w : World) (hy : 0 ≤ y ∧ y ≤ 100) : Calls Tryz.prog 193 #[.int .i64 y] w fun e w' => e = .returned (.bool false) ∧ w = w' := by
  have h1 : ¬ y < 0 := by omega
  have h2 : ¬ 100 < y := by omega
  go_enter Tryz.func193, Tryz.ntmps193
  go_wp2
  go_ret
  exact ⟨rfl, rfl⟩
set_option maxHeartbeats 1000000 in
theorem indexY_any (g : Nat) (y : Int) (w : World) (hy : 0 ≤ y ∧ y ≤ 100) (h0 : w.cell? ⟨g, 0, none⟩ = some (.int .i64 y)) :
    Calls Tryz.prog 244 #[.slice (some ⟨g, 0, none⟩) 1 1, .func (.func 193) #[] #[]] w fun e w' => e = .returned (.int .i64 (-1)) ∧ w' = w := by
  have eg : ∀ args w, (callFunc 193 args).run Tryz.prog w = .ok (.enter 193 args) w := enters_of Tryz.func193 (by kernel_rfl) rfl
  go_enter Tryz.func244, Tryz.ntmps244
  go_wp2
  go_loop [8] (fun iv => iv = .int .i64 0 ∨ iv = .int .i64 1) (fun iv => 1 - (intOf iv).toNat)
  case atStart => exact .inl rfl
  case round =>
    rcases hrel with rfl | rfl
    · go_wp2_with (first
        | (go_at_call 193; refine (yearOk_any y _ hy).mono ?_; rintro e w1 ⟨rfl, rfl⟩)
        | fail)
      go_round
      case rel => exact .inr rfl
      case measure => decide
    · go_wp2
      go_ret
      exact ⟨rfl, rfl⟩
theorem containsY_any (g : Nat) (y : Int) (w : World) (hy : 0 ≤ y ∧ y ≤ 100) (h0 : w.cell? ⟨g, 0, none⟩ = some (.int .i64 y)) :
    Calls Tryz.prog 165 #[.slice (some ⟨g, 0, none⟩) 1 1, .func (.func 193) #[] #[]] w fun e w' => e = .returned (.bool false) ∧ w' = w := by
  go_enter Tryz.func165, Tryz.ntmps165
  go_wp2_with (first
    | (go_at_call 244; refine (indexY_any g y _ hy h0).mono ?_; rintro e w1 ⟨rfl, rfl⟩)
    | fail)
  go_ret
  exact ⟨rfl, rfl⟩
theorem containsG_nil (f : Nat) (lb : Array Value) (w : World) :
    Calls Tryz.prog 71 #[.slice none 0 0, .func (.func f) #[] lb] w fun e w' => e = .returned (.bool false) ∧ w' = w := by
  go_enter Tryz.func71, Tryz.ntmps71
  go_wp2
  go_loop [8] (fun i => i = .int .i64 0) (fun _ => 0)
  case atStart => rfl
  case round =>
    subst hrel
    go_wp2
    go_ret
    exact ⟨rfl, rfl⟩
set_option maxHeartbeats 2000000 in
theorem checkG_any (A : Option Addr) (n c : Nat) (l : RcL) (C : Option Addr) (cc b : Nat) (y : Int) (w : World) (hA : SlRc w A n c l) (hl : HyR (rcs l)) (hC : SlC w C 3 cc grassy) (hy : 0 ≤ y ∧ y ≤ 100) (hb : w.cell? ⟨b, 0, none⟩ = some (.int .i64 y)) (hbl : b < w.heap.size) :
    Calls Tryz.prog 95 #[.agg #[.slice A n c, .slice C 3 cc], .slice none 0 0, .slice (some ⟨b, 0, none⟩) 1 1] w fun e w' => e = .returned (.int .i64 0) ∧ Below w.heap.size w w' := by
  have HK := Lib.hid (fun W (h : Below w.heap.size w W) => checkHy_any A n c l W (hA.below h) hl.hy)
  have HL := Lib.hid (fun W (h : Below w.heap.size w W) => listed_any A n c l C cc W (hA.below h) hl (hC.below h))
  have HY := Lib.hid (fun W (h : Below w.heap.size w W) => containsY_any b y W hy ((h.cell (p := ⟨b, 0, none⟩) hbl).trans hb))
  have HN := Lib.hid (fun W => containsG_nil 194 #[] W)
  clear hA hl hC hb
  go_enter Tryz.func95, Tryz.ntmps95
  go_upto_region 1 with fail
  obtain ⟨w1, hw1⟩ : ∃ w1 : World, w1 = w.alloc (.cells #[.slice A n c, .slice C 3 cc] 153) := ⟨_, rfl⟩
  rw [← hw1]
  have hr1 : w1.heap[w.heap.size]? = some (.cells #[.slice A n c, .slice C 3 cc] 153 (0, 0)) := by rw [hw1]; exact heap_alloc_new w _
  have Hr1 := Lib.hid hr1
  have Hb1 : Hid (Below w.heap.size w w1) := Lib.hid (by rw [hw1]; exact (by repeat' (first | with_reducible exact Below.refl _ _ | with_reducible refine below_drewN ?_ _ | with_reducible refine Below.drew ?_ | with_reducible refine Below.alloc ?_ ?_ _ | with_reducible refine Below.setCell ?_ ?_ _ | with_reducible refine Below.trans ?_ (Below.mono (by with_reducible assumption) ?_) | (simp; done) | (simp; omega) | omega)))
  have hs1 : w.heap.size < w1.heap.size := by rw [hw1]; simp
  have d0 := cell_of_row _ _ 0 _ _ _ hr1
  have d1 := cell_of_row _ _ 1 _ _ _ hr1
  clear hw1 hr1
  go_wp2_with (first
    | (go_at_call 98
       refine (HK.out _ Hb1.out).mono ?_
       rintro e w2 ⟨rfl, hb2⟩
       have hr2 := (hb2.block w.heap.size (by omega)).trans Hr1.out
       have e0 := cell_of_row _ _ 0 _ _ _ hr2
       have e1 := cell_of_row _ _ 1 _ _ _ hr2
       have Hb2 := Lib.hid (Hb1.out.trans (hb2.mono (by omega)))
       clear hb2 hr2 d0 d1)
    | (go_at_call 102
       refine (HL.out _ Hb2.out).mono ?_
       rintro e w3 ⟨rfl, hb3⟩
       have Hb3 := Lib.hid (Hb2.out.trans (hb3.mono Hb2.out.size))
       clear hb3 e0 e1)
    | (go_at_call 165; refine (HY.out _ Hb3.out).mono ?_; rintro e w' ⟨rfl, rfl⟩)
    | (go_at_call 71; refine (HN.out _).mono ?_; rintro e w' ⟨rfl, rfl⟩)
    | fail)
  go_ret
  exact ⟨rfl, Hb3.out⟩
/-- Rectangles in a row of their own. -/
def RowPost (w : World) (P : List R4) (e : Ending) (w' : World) : Prop :=
  ∃ v, e = .returned v ∧ w'.ownsRow w.heap.size 68 4 v P.length (rCells P) ∧ Below w.heap.size w w'
set_option maxHeartbeats 4000000 in
set_option maxRecDepth 100000 in
theorem permanent_any (A : Option Addr) (n c : Nat) (l : RcL) (C : Option Addr) (cc : Nat) (y : Int) (w : World) (hA : SlRc w A n c l) (hl : HyR (rcs l)) (hn : n ≤ 24) (hC : SlC w C 3 cc grassy) (hy : 4 ≤ y ∧ y ≤ 100) :
    Calls Tryz.prog 97 #[.agg #[.slice A n c, .slice C 3 cc], .int .i64 y] w (RowPost w (permN (rcs l) y grassB 4)) := by
  have hy4 : ¬ y < 4 := by omega
  have eg : ∀ args w, (callFunc 197 args).run Tryz.prog w = .ok (.enter 197 args) w := enters_of Tryz.func197 (by kernel_rfl) rfl
  have HR := Lib.hid (fun W (h : Below w.heap.size w W) (z : Int) => rectsH_any A n c l z 197 #[.agg #[.slice A n c, .slice C 3 cc]] #[] grassB W (hA.below h) hl hn eg (fun W2 k hW2 hk0 hk3 => by
    show Calls Tryz.prog 197 #[.agg #[.slice A n c, .slice C 3 cc], .int .i64 k] W2 _
    exact grass_any A n c C cc k W2 (hC.below (h.trans (hW2.mono h.size))) hk0 hk3))
  have HS := Lib.hid (fun W (k : Nat) B m e B' m' e' (h : SlR W B m e (permN (rcs l) y grassB k)) (h' : SlR W B' m' e' (rectsP (rcs l) (y - ((k + 1 : Nat) : Int)) grassB)) => shared_any B B' m e m' e' _ _ W h h' (by have := h.len; have := perm_len hl y grassB k; omega) (by have := h'.len; have := rects_len hl (y - ((k + 1 : Nat) : Int)) grassB; omega) (perm_in hl y grassB k).pos (rects_in hl _ grassB).pos)
  clear hA hl hC eg
  go_enter Tryz.func97, Tryz.ntmps97
  go_upto_region 1 with fail
  obtain ⟨w1, hw1⟩ : ∃ w1 : World, w1 = w.alloc (.cells #[.slice A n c, .slice C 3 cc] 153) := ⟨_, rfl⟩
  rw [← hw1]
  have hr1 : w1.heap[w.heap.size]? = some (.cells #[.slice A n c, .slice C 3 cc] 153 (0, 0)) := by rw [hw1]; exact heap_alloc_new w _
  have Hr1 := Lib.hid hr1
  have Hb1 : Hid (Below w.heap.size w w1) := Lib.hid (by rw [hw1]; exact (by repeat' (first | with_reducible exact Below.refl _ _ | with_reducible refine below_drewN ?_ _ | with_reducible refine Below.drew ?_ | with_reducible refine Below.alloc ?_ ?_ _ | with_reducible refine Below.setCell ?_ ?_ _ | with_reducible refine Below.trans ?_ (Below.mono (by with_reducible assumption) ?_) | (simp; done) | (simp; omega) | omega)))
  have hs1 : w.heap.size < w1.heap.size := by rw [hw1]; simp
  have d0 := cell_of_row _ _ 0 _ _ _ hr1
  have d1 := cell_of_row _ _ 1 _ _ _ hr1
  clear hw1 hr1
  go_upto_region 5 with (first
    | (go_at_call 100
       refine (HR.out _ Hb1.out y).mono ?_
       rintro e w2 ⟨v2, rfl, hown2, hb2⟩
       have Hown2 := Lib.hid (own_rebase (base' := w.heap.size) hown2 (by omega))
       have Hr2 := Lib.hid ((hb2.block w.heap.size (by omega)).trans Hr1.out)
       have Hb2 := Lib.hid (Hb1.out.trans (hb2.mono (by omega)))
       have hs2 : w.heap.size < w2.heap.size := Nat.lt_of_lt_of_le hs1 hb2.size
       clear hown2 hb2)
    | fail)
  clear d0 d1 Hr1 Hb1
  go_loopw [5, 6] (fun ov nv wr => ∃ k : Nat, k ≤ 4 ∧ nv = .int .i64 ((k + 1 : Nat) : Int) ∧ wr.ownsRow w.heap.size 68 4 ov (permN (rcs l) y grassB k).length (rCells (permN (rcs l) y grassB k)) ∧ Below w.heap.size w wr ∧ wr.heap[w.heap.size]? = some (.cells #[.slice A n c, .slice C 3 cc] 153 (0, 0)) ∧ w.heap.size < wr.heap.size) (fun _ nv _ => 5 - (intOf nv).toNat)
  case atStart => exact ⟨0, by omega, rfl, Hown2.out, Hb2.out, Hr2.out, hs2⟩
  case round =>
    clear Hown2 Hb2 Hr2
    obtain ⟨k, hk, rfl, hown, hbw, hrr, hsr⟩ := hrel
    obtain ⟨wo, rfl⟩ : ∃ wo : World, wo = wr := ⟨_, rfl⟩
    have Hown := Lib.hid hown
    have Hbw := Lib.hid hbw
    have Hrr := Lib.hid hrr
    clear hown hbw hrr
    by_cases hk4 : k < 4
    · have hk5 : ((k + 1 : Nat) : Int) < 5 := by omega
      have hyw : IntKind.i64.wrap (y - ((k + 1 : Nat) : Int)) = y - ((k + 1 : Nat) : Int) := IntWalk.i64_in _ (by omega)
      have HSk := Lib.hid (fun W B m e B' m' e' h h' => HS.out W k B m e B' m' e' h h')
      have HRk := Lib.hid (fun W h => HR.out W h (y - ((k + 1 : Nat) : Int)))
      have Hnx : Hid (permN (rcs l) y grassB (k + 1) = chooseP andB (permN (rcs l) y grassB k) (rectsP (rcs l) (y - ((k + 1 : Nat) : Int)) grassB)) := Lib.hid rfl
      generalize permN (rcs l) y grassB k = P at *
      generalize rectsP (rcs l) (y - ((k + 1 : Nat) : Int)) grassB = R at *
      generalize chooseP andB P R = Z at *
      have d0 := cell_of_row _ _ 0 _ _ _ Hrr.out
      have d1 := cell_of_row _ _ 1 _ _ _ Hrr.out
      obtain ⟨A1, c1, rfl, _, _, _⟩ := own_slice Hown.out
      go_wp2_with (first
        | (go_at_call 100
           refine (HRk.out _ Hbw.out).mono ?_
           rintro e w3 ⟨v3, rfl, hown3, hb3⟩
           obtain ⟨A3, c3, rfl, hS3⟩ := SlR.of_own hown3
           have HS3 := Lib.hid hS3
           have Ho3 := Lib.hid (SlR.ofR (ownsRow_below Hown.out hb3))
           have Hr3 := Lib.hid ((hb3.block w.heap.size (by omega)).trans Hrr.out)
           have Hb3 := Lib.hid (Hbw.out.trans (hb3.mono (by omega)))
           have hs3 : w.heap.size < w3.heap.size := Nat.lt_of_lt_of_le hsr hb3.size
           clear hown3 hb3 hS3)
        | (go_at_call 195
           refine (HSk.out _ _ _ _ _ _ _ Ho3.out HS3.out).mono ?_
           rintro e w4 ⟨v4, rfl, hown4, hb4⟩
           have Hown4 := Lib.hid (own_rebase (base' := w.heap.size) hown4 (by omega))
           have Hr4 := Lib.hid ((hb4.block w.heap.size (by omega)).trans Hr3.out)
           have Hb4 := Lib.hid (Hb3.out.trans (hb4.mono (by omega)))
           have hs4 : w.heap.size < w4.heap.size := Nat.lt_of_lt_of_le hs3 hb4.size
           clear hown4 hb4)
        | fail)
      go_roundw
      case rel => exact ⟨k + 1, by omega, by go_num, by rw [Hnx.out]; exact Hown4.out, Hb4.out, Hr4.out, hs4⟩
      case measure => simp [intOf]; omega
    · have hk5 : ¬ ((k + 1 : Nat) : Int) < 5 := by omega
      obtain rfl : k = 4 := by omega
      go_wp2
      go_ret
      exact ⟨_, rfl, Hown.out, Hbw.out⟩
set_option maxHeartbeats 4000000 in
set_option maxRecDepth 100000 in
theorem ploughed_any (A : Option Addr) (n c : Nat) (l : RcL) (C : Option Addr) (cc : Nat) (y : Int) (w : World) (hA : SlRc w A n c l) (hl : HyR (rcs l)) (hn : n ≤ 24) (hC : SlC w C 3 cc grassy) (hy : 5 ≤ y ∧ y ≤ 100) :
    Calls Tryz.prog 96 #[.agg #[.slice A n c, .slice C 3 cc], .int .i64 y] w (RowPost w (ploughN (rcs l) y grassB)) := by
  have eg : ∀ args w, (callFunc 196 args).run Tryz.prog w = .ok (.enter 196 args) w := enters_of Tryz.func196 (by kernel_rfl) rfl
  have HR := Lib.hid (fun W (h : Below w.heap.size w W) (g : Nat) (h0 : W.cell? ⟨g, 0, none⟩ = some (.slice A n c)) (h1 : W.cell? ⟨g, 1, none⟩ = some (.slice C 3 cc)) (hg : g < W.heap.size) => rectsH_any A n c l y 196 #[] #[.pointer (some ⟨g, 0, none⟩)] (fun k => !grassB k) W (hA.below h) hl hn eg (fun W2 k hW2 hk0 hk3 => by
    show Calls Tryz.prog 196 #[.int .i64 k, .pointer (some ⟨g, 0, none⟩)] W2 _
    exact notGrass_any A n c C cc g k W2 (hC.below (h.trans (hW2.mono h.size))) ((hW2.cell (p := ⟨g, 0, none⟩) hg).trans h0) ((hW2.cell (p := ⟨g, 1, none⟩) hg).trans h1) hk0 hk3))
  have HP := Lib.hid (fun W (h : Below w.heap.size w W) => permanent_any A n c l C cc (y - 1) W (hA.below h) hl hn (hC.below h) (by omega))
  have HS := Lib.hid (fun W B m e B' m' e' (h : SlR W B m e (permN (rcs l) (y - 1) grassB 4)) (h' : SlR W B' m' e' (rectsP (rcs l) y fun k => !grassB k)) => shared_any B B' m e m' e' _ _ W h h' (by have := h.len; have := perm_len hl (y - 1) grassB 4; omega) (by have := h'.len; have := rects_len hl y fun k => !grassB k; omega) (perm_in hl _ grassB 4).pos (rects_in hl _ _).pos)
  have hyw : IntKind.i64.wrap (y - 1) = y - 1 := IntWalk.i64_in _ (by omega)
  have Hz : Hid (ploughN (rcs l) y grassB = chooseP andB (permN (rcs l) (y - 1) grassB 4) (rectsP (rcs l) y fun k => !grassB k)) := Lib.hid rfl
  clear hA hl hC eg
  generalize ploughN (rcs l) y grassB = Z0 at *
  generalize permN (rcs l) (y - 1) grassB 4 = P at *
  generalize (rectsP (rcs l) y fun k => !grassB k) = R at *
  generalize chooseP andB P R = Z at *
  go_enter Tryz.func96, Tryz.ntmps96
  go_upto_region 1 with fail
  obtain ⟨w1, hw1⟩ : ∃ w1 : World, w1 = w.alloc (.cells #[.slice A n c, .slice C 3 cc] 153) := ⟨_, rfl⟩
  rw [← hw1]
  have hr1 : w1.heap[w.heap.size]? = some (.cells #[.slice A n c, .slice C 3 cc] 153 (0, 0)) := by rw [hw1]; exact heap_alloc_new w _
  have Hr1 := Lib.hid hr1
  have Hb1 : Hid (Below w.heap.size w w1) := Lib.hid (by rw [hw1]; exact (by repeat' (first | with_reducible exact Below.refl _ _ | with_reducible refine below_drewN ?_ _ | with_reducible refine Below.drew ?_ | with_reducible refine Below.alloc ?_ ?_ _ | with_reducible refine Below.setCell ?_ ?_ _ | with_reducible refine Below.trans ?_ (Below.mono (by with_reducible assumption) ?_) | (simp; done) | (simp; omega) | omega)))
  have hs1 : w.heap.size < w1.heap.size := by rw [hw1]; simp
  have c0 := cell_of_row _ _ 0 _ _ _ hr1
  have c1 := cell_of_row _ _ 1 _ _ _ hr1
  clear hw1 hr1
  go_region_held3 (fun w' => w'.cell? ⟨w.heap.size, 0, none⟩ = some (.slice A n c) ∧ w'.cell? ⟨w.heap.size, 1, none⟩ = some (.slice C 3 cc))
    (first | go_keep | ((repeat' apply And.intro) <;> go_keep))
    (first
      | (go_at_call 97
         refine (HP.out _ (by exact Hb1.out.trans (Below.mono (by repeat' (first | with_reducible exact Below.refl _ _ | with_reducible refine below_drewN ?_ _ | with_reducible refine Below.drew ?_ | with_reducible refine Below.alloc ?_ ?_ _ | with_reducible refine Below.setCell ?_ ?_ _ | with_reducible refine Below.trans ?_ (Below.mono (by with_reducible assumption) ?_) | (simp; done) | (simp; omega) | omega)) Hb1.out.size))).mono ?_
         rintro e w2 ⟨v2, rfl, hown2, hb2⟩
         obtain ⟨A2, c2, rfl, hS2⟩ := SlR.of_own hown2
         have HS2 := Lib.hid hS2
         have Hb2 : Hid (Below w1.heap.size w1 w2) := Lib.hid (show Below w1.heap.size w1 w2 from (by have hbq := hb2; exact (by repeat' (first | with_reducible exact Below.refl _ _ | with_reducible assumption | with_reducible refine below_drewN ?_ _ | with_reducible refine Below.drew ?_ | with_reducible refine Below.alloc ?_ ?_ _ | with_reducible refine Below.setCell ?_ ?_ _ | with_reducible refine Below.trans ?_ (Below.mono (by with_reducible assumption) ?_) | with_reducible refine below_only ?_ (by with_reducible assumption) ?_ ?_ | (simp; done) | (simp; omega) | omega))))
         have Hr2 := Lib.hid ((Hb2.out.block w.heap.size hs1).trans Hr1.out)
         have c02 := cell_of_row _ _ 0 _ _ _ Hr2.out
         have c12 := cell_of_row _ _ 1 _ _ _ Hr2.out
         have hs2 : w.heap.size < w2.heap.size := Nat.lt_of_lt_of_le hs1 Hb2.out.size
         clear hown2 hb2 hS2)
      | (go_at_call 100
         refine (HR.out _ (Hb1.out.trans (Below.mono (Hb2.out.trans (Below.mono (by repeat' (first | with_reducible exact Below.refl _ _ | with_reducible refine below_drewN ?_ _ | with_reducible refine Below.drew ?_ | with_reducible refine Below.alloc ?_ ?_ _ | with_reducible refine Below.setCell ?_ ?_ _ | with_reducible refine Below.trans ?_ (Below.mono (by with_reducible assumption) ?_) | (simp; done) | (simp; omega) | omega)) Hb2.out.size)) Hb1.out.size)) w.heap.size c02 c12 hs2).mono ?_
         rintro e w3 ⟨v3, rfl, hown3, hb3⟩
         obtain ⟨A3, c3, rfl, hS3⟩ := SlR.of_own hown3
         have HS3 := Lib.hid hS3
         have Hb3 : Hid (Below w2.heap.size w2 w3) := Lib.hid (show Below w2.heap.size w2 w3 from (by have hbq := hb3; exact (by repeat' (first | with_reducible exact Below.refl _ _ | with_reducible assumption | with_reducible refine below_drewN ?_ _ | with_reducible refine Below.drew ?_ | with_reducible refine Below.alloc ?_ ?_ _ | with_reducible refine Below.setCell ?_ ?_ _ | with_reducible refine Below.trans ?_ (Below.mono (by with_reducible assumption) ?_) | with_reducible refine below_only ?_ (by with_reducible assumption) ?_ ?_ | (simp; done) | (simp; omega) | omega))))
         have Hr3 := Lib.hid ((Hb3.out.block w.heap.size hs2).trans Hr2.out)
         have c03 := cell_of_row _ _ 0 _ _ _ Hr3.out
         have c13 := cell_of_row _ _ 1 _ _ _ Hr3.out
         have hs3 : w.heap.size < w3.heap.size := Nat.lt_of_lt_of_le hs2 Hb3.out.size
         clear hown3 hb3 hS3)
      | (go_at_call 195
         refine (HS.out _ _ _ _ _ _ _ ((HS2.out.below Hb3.out).below (Below.mono (by repeat' (first | with_reducible exact Below.refl _ _ | with_reducible refine below_drewN ?_ _ | with_reducible refine Below.drew ?_ | with_reducible refine Below.alloc ?_ ?_ _ | with_reducible refine Below.setCell ?_ ?_ _ | with_reducible refine Below.trans ?_ (Below.mono (by with_reducible assumption) ?_) | (simp; done) | (simp; omega) | omega)) (Nat.le_refl _))) (HS3.out.below (by repeat' (first | with_reducible exact Below.refl _ _ | with_reducible refine below_drewN ?_ _ | with_reducible refine Below.drew ?_ | with_reducible refine Below.alloc ?_ ?_ _ | with_reducible refine Below.setCell ?_ ?_ _ | with_reducible refine Below.trans ?_ (Below.mono (by with_reducible assumption) ?_) | (simp; done) | (simp; omega) | omega)))).mono ?_
         rintro e w4 ⟨v4, rfl, hown4, hb4⟩
         have Hown4 := Lib.hid hown4
         have Hb4 : Hid (Below w3.heap.size w3 w4) := Lib.hid (show Below w3.heap.size w3 w4 from (by have hbq := hb4; exact (by repeat' (first | with_reducible exact Below.refl _ _ | with_reducible assumption | with_reducible refine below_drewN ?_ _ | with_reducible refine Below.drew ?_ | with_reducible refine Below.alloc ?_ ?_ _ | with_reducible refine Below.setCell ?_ ?_ _ | with_reducible refine Below.trans ?_ (Below.mono (by with_reducible assumption) ?_) | with_reducible refine below_only ?_ (by with_reducible assumption) ?_ ?_ | (simp; done) | (simp; omega) | omega))))
         have Hr4 := Lib.hid ((Hb4.out.block w.heap.size hs3).trans Hr3.out)
         have c04 := cell_of_row _ _ 0 _ _ _ Hr4.out
         have c14 := cell_of_row _ _ 1 _ _ _ Hr4.out
         clear hown4 hb4)
      | fail)
  all_goals go_wp2
  all_goals go_ret
  all_goals exact ⟨_, rfl, by rw [Hz.out]; exact own_rebase Hown4.out (Nat.le_trans Hb1.out.size (Nat.le_trans Hb2.out.size Hb3.out.size)), Hb1.out.trans ((Hb2.out.trans ((Hb3.out.trans (Hb4.out.mono Hb3.out.size)).mono Hb2.out.size)).mono Hb1.out.size)⟩
end Go.Proofs.YtfmkmhhghmdakaaGreatDoor
namespace Go.Proofs.YtfmkmhhghmdakaaGreatDoor
open Go.RowKit Go.Shelf
set_option linter.unusedVariables false
set_option linter.unusedSimpArgs false

theorem sq3 {w : World} {g : Nat} {t : TypeId} {a b c x y z : Value} (h : w.heap[g]? = some (.cells #[a, b, c] t (0, 0))) : (((w.setCell ⟨g, 0, none⟩ x).setCell ⟨g, 1, none⟩ y).setCell ⟨g, 2, none⟩ z).heap[g]? = some (.cells #[x, y, z] t (0, 0)) := by
  have h1 := heap_setCell_same w g 0 _ _ x h
  have h2 := heap_setCell_same _ g 1 _ _ y h1
  have h3 := heap_setCell_same _ g 2 _ _ z h2
  rw [h3]
  simp
theorem sq3_only {w : World} {g : Nat} {x y z : Value} : w.grownBy (((w.setCell ⟨g, 0, none⟩ x).setCell ⟨g, 1, none⟩ y).setCell ⟨g, 2, none⟩ z) (some g) :=
  only_setCell (only_setCell (only_setCell (World.grownBy.refl _ (some g)) (.inl rfl) _) (.inl rfl) _) (.inl rfl) _
theorem sq3_below {w w0 : World} {g k : Nat} {x y z : Value} (h : Below k w0 w) (hg : k ≤ g) : Below k w0 (((w.setCell ⟨g, 0, none⟩ x).setCell ⟨g, 1, none⟩ y).setCell ⟨g, 2, none⟩ z) := ((h.setCell hg _).setCell hg _).setCell hg _
theorem termB_fn (w : World) : BoolFn 273 #[] andB w := by
  intro W x y _
  show Calls Tryz.prog 273 #[.bool x, .bool y] W _
  cases x <;> cases y
  all_goals go_enter Tryz.func273, Tryz.ntmps273
  all_goals go_wp2
  all_goals go_ret
  all_goals exact ⟨rfl, (by repeat' (first | with_reducible exact Below.refl _ _ | with_reducible refine below_drewN ?_ _ | with_reducible refine Below.drew ?_ | with_reducible refine Below.alloc ?_ ?_ _ | with_reducible refine Below.setCell ?_ ?_ _ | with_reducible refine Below.trans ?_ (Below.mono (by with_reducible assumption) ?_) | (simp; done) | (simp; omega) | omega))⟩
theorem termW_fn (w : World) : BoolFn 330 #[] notB w := by
  intro W x y _
  show Calls Tryz.prog 330 #[.bool x, .bool y] W _
  cases x <;> cases y
  all_goals go_enter Tryz.func330, Tryz.ntmps330
  all_goals go_wp2
  all_goals go_ret
  all_goals exact ⟨rfl, (by repeat' (first | with_reducible exact Below.refl _ _ | with_reducible refine below_drewN ?_ _ | with_reducible refine Below.drew ?_ | with_reducible refine Below.alloc ?_ ?_ _ | with_reducible refine Below.setCell ?_ ?_ _ | with_reducible refine Below.trans ?_ (Below.mono (by with_reducible assumption) ?_) | (simp; done) | (simp; omega) | omega))⟩
theorem before1_any (k : Int) (C : Option Addr) (cc X Z : Nat) (w : World) (hC : SlC w C 3 cc grassy) (c1 : w.cell? ⟨X, 1, none⟩ = some (.slice C 3 cc)) (t2 : w.cell? ⟨Z, 2, none⟩ = some (.int .i64 2)) (hk0 : 0 ≤ k) (hk3 : k < 3) :
    Calls Tryz.prog 281 #[.int .i64 k, .pointer (some ⟨X, 0, none⟩), .pointer (some ⟨Z, 0, none⟩)] w fun e w' => e = .returned (.bool (grassB k)) ∧ w = w' := by
  have HH := Lib.hid (cropHas_any C cc k w hC hk0 hk3)
  clear hC
  go_enter Tryz.func281, Tryz.ntmps281
  go_wp2_with (first
    | (go_at_call 104; refine HH.out.mono ?_; rintro e w' ⟨rfl, rfl⟩)
    | fail)
  go_ret
  exact ⟨rfl, rfl⟩
theorem before2_any (k : Int) (C : Option Addr) (cc X Z : Nat) (w : World) (hC : SlC w C 3 cc grassy) (c1 : w.cell? ⟨X, 1, none⟩ = some (.slice C 3 cc)) (t2 : w.cell? ⟨Z, 2, none⟩ = some (.int .i64 2)) (hk0 : 0 ≤ k) (hk3 : k < 3) :
    Calls Tryz.prog 282 #[.int .i64 k, .pointer (some ⟨X, 0, none⟩), .pointer (some ⟨Z, 0, none⟩)] w fun e w' => e = .returned (.bool (!grassB k)) ∧ w = w' := by
  have HH := Lib.hid (cropHas_any C cc k w hC hk0 hk3)
  generalize grassB k = b at *
  clear hC
  go_enter Tryz.func282, Tryz.ntmps282
  go_wp2_with (first
    | (go_at_call 104; refine HH.out.mono ?_; rintro e w' ⟨rfl, rfl⟩)
    | fail)
  go_ret
  exact ⟨rfl, rfl⟩
set_option maxHeartbeats 4000000 in
set_option maxRecDepth 100000 in
theorem knownTm_any (A : Option Addr) (n c : Nat) (l : RcL) (C : Option Addr) (cc : Nat) (B : Option Addr) (m d : Nat) (P : List R4) (y : Int) (f : Nat) (lb : Array Value) (p : Int → Bool) (w : World) (hA : SlRc w A n c l) (hl : HyR (rcs l)) (hn : n ≤ 24) (hB : SlR w B m d P) (hm : m ≤ 243) (hP : InS 9 P) (hy : 1 ≤ y ∧ y ≤ 100)
    (eg : ∀ args w, (callFunc f args).run Tryz.prog w = .ok (.enter f args) w) (hp : CropFn f #[] lb p w) :
    Calls Tryz.prog 280 #[.agg #[.int .i64 y, .slice C 3 cc, .slice A n c, .slice none 0 0, .int .i64 0, .int .i64 0, .slice B m d, .int .i64 1, .int .i64 0, .slice B m d], .int .i64 1, .func (.func f) #[] lb] w (RowPost w (chooseP andB P (rectsP (rcs l) (y - 1) p))) := by
  have HR := Lib.hid (fun W (h : Below w.heap.size w W) => rectsH_any A n c l (y - 1) f #[] lb p W (hA.below h) hl hn eg (hp.below h))
  have HC := Lib.hid (fun W B' m' d' (h : Below w.heap.size w W) (h' : SlR W B' m' d' (rectsP (rcs l) (y - 1) p)) => choose_any B B' m d m' d' 273 #[] andB P _ W (hB.below h) h' (by omega) (by have := h'.len; have := rects_len hl (y - 1) p; omega) hP.pos (rects_in hl _ p).pos (enters_of Tryz.func273 (by kernel_rfl) rfl) (termB_fn W))
  have hyw : IntKind.i64.wrap (y - 1) = y - 1 := IntWalk.i64_in _ (by omega)
  clear hA hl hB hP eg hp
  generalize rectsP (rcs l) (y - 1) p = Q at *
  generalize chooseP andB P Q = Z at *
  go_enter Tryz.func280, Tryz.ntmps280
  go_upto_region 1 with fail
  obtain ⟨w1, hw1⟩ : ∃ w1 : World, w1 = w.alloc (.cells #[.int .i64 y, .slice C 3 cc, .slice A n c, .slice none 0 0, .int .i64 0, .int .i64 0, .slice B m d, .int .i64 1, .int .i64 0, .slice B m d] 163) := ⟨_, rfl⟩
  rw [← hw1]
  have hr1 : w1.heap[w.heap.size]? = some (.cells #[.int .i64 y, .slice C 3 cc, .slice A n c, .slice none 0 0, .int .i64 0, .int .i64 0, .slice B m d, .int .i64 1, .int .i64 0, .slice B m d] 163 (0, 0)) := by rw [hw1]; exact heap_alloc_new w _
  have Hr1 := Lib.hid hr1
  have Hb1 : Hid (Below w.heap.size w w1) := Lib.hid (by rw [hw1]; exact (by repeat' (first | with_reducible exact Below.refl _ _ | with_reducible refine below_drewN ?_ _ | with_reducible refine Below.drew ?_ | with_reducible refine Below.alloc ?_ ?_ _ | with_reducible refine Below.setCell ?_ ?_ _ | with_reducible refine Below.trans ?_ (Below.mono (by with_reducible assumption) ?_) | (simp; done) | (simp; omega) | omega)))
  have hs1 : w.heap.size < w1.heap.size := by rw [hw1]; simp
  have c0 := cell_of_row _ _ 0 _ _ _ hr1
  have c2 := cell_of_row _ _ 2 _ _ _ hr1
  have c9 := cell_of_row _ _ 9 _ _ _ hr1
  clear hw1 hr1
  go_region_held3 (fun w' => w'.cell? ⟨w.heap.size, 0, none⟩ = some (.int .i64 y) ∧ w'.cell? ⟨w.heap.size, 2, none⟩ = some (.slice A n c) ∧ w'.cell? ⟨w.heap.size, 9, none⟩ = some (.slice B m d))
    (first | go_keep | ((repeat' apply And.intro) <;> go_keep))
    (first
      | (go_at_call 100
         refine (HR.out _ (by exact Hb1.out.trans (Below.mono (by repeat' (first | with_reducible exact Below.refl _ _ | with_reducible refine below_drewN ?_ _ | with_reducible refine Below.drew ?_ | with_reducible refine Below.alloc ?_ ?_ _ | with_reducible refine Below.setCell ?_ ?_ _ | with_reducible refine Below.trans ?_ (Below.mono (by with_reducible assumption) ?_) | (simp; done) | (simp; omega) | omega)) Hb1.out.size))).mono ?_
         rintro e w2 ⟨v2, rfl, hown2, hb2⟩
         obtain ⟨A2, c2', rfl, hS2⟩ := SlR.of_own hown2
         have HS2 := Lib.hid hS2
         have Hb2 : Hid (Below w1.heap.size w1 w2) := Lib.hid (show Below w1.heap.size w1 w2 from (by have hbq := hb2; exact (by repeat' (first | with_reducible exact Below.refl _ _ | with_reducible assumption | with_reducible refine below_drewN ?_ _ | with_reducible refine Below.drew ?_ | with_reducible refine Below.alloc ?_ ?_ _ | with_reducible refine Below.setCell ?_ ?_ _ | with_reducible refine Below.trans ?_ (Below.mono (by with_reducible assumption) ?_) | with_reducible refine below_only ?_ (by with_reducible assumption) ?_ ?_ | (simp; done) | (simp; omega) | omega))))
         have Hr2 := Lib.hid ((Hb2.out.block w.heap.size hs1).trans Hr1.out)
         have c02 := cell_of_row _ _ 0 _ _ _ Hr2.out
         have c22 := cell_of_row _ _ 2 _ _ _ Hr2.out
         have c92 := cell_of_row _ _ 9 _ _ _ Hr2.out
         have hs2 : w.heap.size < w2.heap.size := Nat.lt_of_lt_of_le hs1 Hb2.out.size
         clear hown2 hb2 hS2)
      | (go_at_call 54
         refine (HC.out _ _ _ _ (Hb1.out.trans (Below.mono (Hb2.out.trans (Below.mono (by repeat' (first | with_reducible exact Below.refl _ _ | with_reducible refine below_drewN ?_ _ | with_reducible refine Below.drew ?_ | with_reducible refine Below.alloc ?_ ?_ _ | with_reducible refine Below.setCell ?_ ?_ _ | with_reducible refine Below.trans ?_ (Below.mono (by with_reducible assumption) ?_) | (simp; done) | (simp; omega) | omega)) Hb2.out.size)) Hb1.out.size)) (HS2.out.below (by repeat' (first | with_reducible exact Below.refl _ _ | with_reducible refine below_drewN ?_ _ | with_reducible refine Below.drew ?_ | with_reducible refine Below.alloc ?_ ?_ _ | with_reducible refine Below.setCell ?_ ?_ _ | with_reducible refine Below.trans ?_ (Below.mono (by with_reducible assumption) ?_) | (simp; done) | (simp; omega) | omega)))).mono ?_
         rintro e w4 ⟨v4, rfl, hown4, hb4⟩
         have Hown4 := Lib.hid hown4
         have Hb4 : Hid (Below w2.heap.size w2 w4) := Lib.hid (show Below w2.heap.size w2 w4 from (by have hbq := hb4; exact (by repeat' (first | with_reducible exact Below.refl _ _ | with_reducible assumption | with_reducible refine below_drewN ?_ _ | with_reducible refine Below.drew ?_ | with_reducible refine Below.alloc ?_ ?_ _ | with_reducible refine Below.setCell ?_ ?_ _ | with_reducible refine Below.trans ?_ (Below.mono (by with_reducible assumption) ?_) | with_reducible refine below_only ?_ (by with_reducible assumption) ?_ ?_ | (simp; done) | (simp; omega) | omega))))
         have Hr4 := Lib.hid ((Hb4.out.block w.heap.size hs2).trans Hr2.out)
         have c04 := cell_of_row _ _ 0 _ _ _ Hr4.out
         have c24 := cell_of_row _ _ 2 _ _ _ Hr4.out
         have c94 := cell_of_row _ _ 9 _ _ _ Hr4.out
         clear hown4 hb4)
      | fail)
  all_goals go_wp2
  all_goals go_ret
  all_goals exact ⟨_, rfl, own_rebase Hown4.out (Nat.le_trans Hb1.out.size Hb2.out.size), Hb1.out.trans ((Hb2.out.trans (Hb4.out.mono Hb2.out.size)).mono Hb1.out.size)⟩
set_option maxHeartbeats 4000000 in
set_option maxRecDepth 100000 in
theorem restTm_any (A : Option Addr) (n c : Nat) (C : Option Addr) (cc : Nat) (B : Option Addr) (m d : Nat) (P : List R4) (y : Int) (A1 : Option Addr) (n1 c1 : Nat) (l1 : List R4) (A2 : Option Addr) (n2 c2 : Nat) (l2 : List R4) (w : World) (hB : SlR w B m d P) (hm : m ≤ 243) (hP : InS 9 P) (h1 : SlR w A1 n1 c1 l1) (hn1 : n1 ≤ 243) (hi1 : InS 9 l1) (h2 : SlR w A2 n2 c2 l2) (hn2 : n2 ≤ 243) (hi2 : InS 9 l2) :
    Calls Tryz.prog 275 #[.agg #[.int .i64 y, .slice C 3 cc, .slice A n c, .slice none 0 0, .int .i64 0, .int .i64 0, .slice B m d, .int .i64 1, .int .i64 0, .slice B m d], .slice A1 n1 c1, .slice A2 n2 c2] w fun e w' => ∃ v, e = .returned (.agg #[.slice A1 n1 c1, .slice A2 n2 c2, v]) ∧ w'.ownsRow w.heap.size 68 4 v (chooseP notB (chooseP notB P l1) l2).length (rCells (chooseP notB (chooseP notB P l1) l2)) ∧ Below w.heap.size w w' := by
  have hmid := choose_len notB 9 P l1 hP hi1
  have hin := choose_in notB rfl hP hi1
  have HC1 := Lib.hid (fun W (h : Below w.heap.size w W) => choose_any B A1 m d n1 c1 330 #[] notB P l1 W (hB.below h) (h1.below h) (by omega) (by omega) hP.pos hi1.pos (enters_of Tryz.func330 (by kernel_rfl) rfl) (termW_fn W))
  have HC2 := Lib.hid (fun W B' m' d' (h : Below w.heap.size w W) (h' : SlR W B' m' d' (chooseP notB P l1)) => choose_any B' A2 m' d' n2 c2 330 #[] notB _ l2 W h' (h2.below h) (by have := h'.len; omega) (by omega) hin.pos hi2.pos (enters_of Tryz.func330 (by kernel_rfl) rfl) (termW_fn W))
  clear hB hP h1 hi1 h2 hi2 hmid hin
  generalize chooseP notB P l1 = Q at *
  generalize chooseP notB Q l2 = Z at *
  go_enter Tryz.func275, Tryz.ntmps275
  go_upto_region 1 with fail
  obtain ⟨w1, hw1⟩ : ∃ w1 : World, w1 = (w.alloc (.cells #[.int .i64 y, .slice C 3 cc, .slice A n c, .slice none 0 0, .int .i64 0, .int .i64 0, .slice B m d, .int .i64 1, .int .i64 0, .slice B m d] 163)).alloc (.cells #[.slice none 0 0, .slice none 0 0, .slice none 0 0] 166) := ⟨_, rfl⟩
  rw [← hw1]
  have hr1 : w1.heap[w.heap.size]? = some (.cells #[.int .i64 y, .slice C 3 cc, .slice A n c, .slice none 0 0, .int .i64 0, .int .i64 0, .slice B m d, .int .i64 1, .int .i64 0, .slice B m d] 163 (0, 0)) := by rw [hw1]; exact (Below.heap_alloc _ _ _ (by simp)).trans (heap_alloc_new w _)
  have Hz1 : Hid (w1.heap[w.heap.size + 1]? = some (.cells #[.slice none 0 0, .slice none 0 0, .slice none 0 0] 166 (0, 0))) := Lib.hid (by rw [hw1]; exact heap_alloc2_new w _ _)
  have Hb1 : Hid (Below w.heap.size w w1) := Lib.hid (by rw [hw1]; exact (by repeat' (first | with_reducible exact Below.refl _ _ | with_reducible refine below_drewN ?_ _ | with_reducible refine Below.drew ?_ | with_reducible refine Below.alloc ?_ ?_ _ | with_reducible refine Below.setCell ?_ ?_ _ | with_reducible refine Below.trans ?_ (Below.mono (by with_reducible assumption) ?_) | (simp; done) | (simp; omega) | omega)))
  have hs1 : w.heap.size + 1 < w1.heap.size := by rw [hw1]; simp
  have c9 := cell_of_row _ _ 9 _ _ _ hr1
  clear hw1 hr1
  go_upto_region 2 with (first
    | (go_at_call_of 54 (Value.slice B m d)
       refine (HC1.out _ Hb1.out).mono ?_
       rintro e w2 ⟨v2, rfl, hown2, hb2⟩
       obtain ⟨A2', c2', rfl, hS2⟩ := SlR.of_own hown2
       have HS2 := Lib.hid hS2
       have Hz2 := Lib.hid ((hb2.block (w.heap.size + 1) hs1).trans Hz1.out)
       have hs2 : w.heap.size + 1 < w2.heap.size := Nat.lt_of_lt_of_le hs1 hb2.size
       have Hb2 := Lib.hid (Hb1.out.trans (hb2.mono Hb1.out.size))
       clear hown2 hb2 hS2 c9)
    | (go_at_call 54
       refine (HC2.out _ _ _ _ Hb2.out HS2.out).mono ?_
       rintro e w3 ⟨v3, rfl, hown3, hb3⟩
       obtain ⟨A3, c3, rfl, _, _, _⟩ := own_slice hown3
       have Hown3 := Lib.hid (own_rebase (base' := w.heap.size + 1 + 1) hown3 (by omega))
       have hz3 := (hb3.block (w.heap.size + 1) hs2).trans Hz2.out
       have Hz3 := Lib.hid hz3
       have z0 := cell_of_row _ _ 0 _ _ _ hz3
       have z1 := cell_of_row _ _ 1 _ _ _ hz3
       have z2 := cell_of_row _ _ 2 _ _ _ hz3
       have g0 := frozen_of_row _ _ 0 _ _ hz3
       have g1 := frozen_of_row _ _ 1 _ _ hz3
       have g2 := frozen_of_row _ _ 2 _ _ hz3
       have Hb3 := Lib.hid (Hb2.out.trans (hb3.mono Hb2.out.size))
       clear hown3 hb3 hz3)
    | fail)
  go_wp2
  have hz5 := sq3 (x := .slice A1 n1 c1) (y := .slice A2 n2 c2) (z := .slice A3 Z.length c3) Hz3.out
  have y0 := cell_of_row _ _ 0 _ _ _ hz5
  have y1 := cell_of_row _ _ 1 _ _ _ hz5
  have y2 := cell_of_row _ _ 2 _ _ _ hz5
  refine bodyPost_ret (v := .agg #[.slice A1 n1 c1, .slice A2 n2 c2, .slice A3 Z.length c3]) (by simp only [results, Tryz.results275, go_sem, y0, y1, y2]; first | rfl | simp [go_sem, *]) rfl ?_
  exact ⟨_, rfl, own_rebase (own_other Hown3.out sq3_only (fun k hk e => by injection e with e; have := own_base Hown3.out k hk; omega)) (by omega), sq3_below Hb3.out (by omega)⟩
end Go.Proofs.YtfmkmhhghmdakaaGreatDoor
namespace Go.Proofs.YtfmkmhhghmdakaaGreatDoor
open Go.RowKit Go.Shelf
set_option linter.unusedVariables false
set_option linter.unusedSimpArgs false

theorem wrongP_any (k : Int) (C : Option Addr) (cc X : Nat) (w : World) (c1 : w.cell? ⟨X, 1, none⟩ = some (.slice C 3 cc)) (hk0 : 0 ≤ k) (hk3 : k < 3) :
    Calls Tryz.prog 203 #[.int .i64 k, .pointer (some ⟨X, 0, none⟩)] w fun e w' => e = .returned (.bool false) ∧ w = w' := by
  have h1 : ¬ k < 0 := by omega
  have h2 : ¬ 3 ≤ k := by omega
  go_enter Tryz.func203, Tryz.ntmps203
  go_wp2
  go_ret
  exact ⟨rfl, rfl⟩
set_option maxHeartbeats 1000000 in
theorem wrongR_any (x : Rc) (v : LV) (C : Option Addr) (cc X Y : Nat) (w : World) (h0 : 0 ≤ x.cr) (h3 : x.cr < 3) (c1 : w.cell? ⟨X, 1, none⟩ = some (.slice C 3 cc)) (hX : X < w.heap.size) (cy : w.cell? ⟨Y, 0, none⟩ = some (.func (.func 203) #[] #[.pointer (some ⟨X, 0, none⟩)])) (hY : Y < w.heap.size) :
    Calls Tryz.prog 204 #[.agg #[.int .i64 x.yr, .int .i64 x.cr, .slice v.a x.rg.length v.c], .pointer (some ⟨Y, 0, none⟩)] w fun e w' => e = .returned (.bool false) ∧ Below w.heap.size w w' := by
  have eg : ∀ args w, (callFunc 203 args).run Tryz.prog w = .ok (.enter 203 args) w := enters_of Tryz.func203 (by kernel_rfl) rfl
  have HH := Lib.hid (fun W (h : Below w.heap.size w W) => wrongP_any x.cr C cc X W ((h.cell (p := ⟨X, 1, none⟩) hX).trans c1) h0 h3)
  have Hcy := Lib.hid cy
  clear c1 cy
  go_enter Tryz.func204, Tryz.ntmps204
  go_upto_region 1 with fail
  obtain ⟨w1, hw1⟩ : ∃ w1 : World, w1 = w.alloc (.cells #[.int .i64 x.yr, .int .i64 x.cr, .slice v.a x.rg.length v.c] 172) := ⟨_, rfl⟩
  rw [← hw1]
  have hr1 : w1.heap[w.heap.size]? = some (.cells #[.int .i64 x.yr, .int .i64 x.cr, .slice v.a x.rg.length v.c] 172 (0, 0)) := by rw [hw1]; exact heap_alloc_new w _
  have Hb1 : Hid (Below w.heap.size w w1) := Lib.hid (by rw [hw1]; exact (by repeat' (first | with_reducible exact Below.refl _ _ | with_reducible refine below_drewN ?_ _ | with_reducible refine Below.drew ?_ | with_reducible refine Below.alloc ?_ ?_ _ | with_reducible refine Below.setCell ?_ ?_ _ | with_reducible refine Below.trans ?_ (Below.mono (by with_reducible assumption) ?_) | (simp; done) | (simp; omega) | omega)))
  have d1 := cell_of_row _ _ 1 _ _ _ hr1
  have e0 := (Hb1.out.cell (p := ⟨Y, 0, none⟩) hY).trans Hcy.out
  clear hw1 hr1
  go_wp2_with (first
    | (go_at_call 203; refine (HH.out _ Hb1.out).mono ?_; rintro e w' ⟨rfl, rfl⟩)
    | fail)
  go_ret
  exact ⟨rfl, Hb1.out⟩
set_option maxHeartbeats 4000000 in
set_option maxRecDepth 100000 in
theorem checkPl_any (A : Option Addr) (n c : Nat) (l : RcL) (C : Option Addr) (cc : Nat) (B : Option Addr) (m d : Nat) (P : List R4) (y : Int) (w : World) (hA : SlRc w A n c l) (hl : HyR (rcs l)) (hC : SlC w C 3 cc grassy) (hB : SlR w B m d P) (hP : validP P = true) (hy : 0 ≤ y ∧ y ≤ 100) :
    Calls Tryz.prog 106 #[.agg #[.int .i64 y, .slice C 3 cc, .slice A n c, .slice none 0 0, .int .i64 0, .int .i64 0, .slice B m d, .int .i64 1, .int .i64 0, .slice B m d], beforeV] w fun e w' => e = .returned (.int .i64 0) ∧ Below w.heap.size w w' := by
  have eg : ∀ args w, (callFunc 203 args).run Tryz.prog w = .ok (.enter 203 args) w := enters_of Tryz.func203 (by kernel_rfl) rfl
  have eg2 : ∀ args w, (callFunc 204 args).run Tryz.prog w = .ok (.enter 204 args) w := enters_of Tryz.func204 (by kernel_rfl) rfl
  have hy0 : ¬ y < 0 := by omega
  have hy1 : ¬ 100 < y := by omega
  have HK := Lib.hid (fun W (h : Below w.heap.size w W) => checkHy_any A n c l W (hA.below h) hl.hy)
  have HCC := Lib.hid (fun W (h : Below w.heap.size w W) => cropCheck_any C 3 cc grassy W (hC.below h) grassy_ok)
  have HO := Lib.hid (fun W => on_any none 0 0 [] 0 W ⟨rfl, Nat.le_refl _, by unfold maxLen; omega, .inl rfl, fun x hx => (by cases hx)⟩ ⟨fun x h => (by cases h), List.Pairwise.nil, by simp [fts]⟩ (by omega))
  have HV := Lib.hid (fun W (h : Below w.heap.size w W) => valid_any B m d P W (hB.below h))
  have HX := Lib.hid (fun W (h : Below w.heap.size w W) (X Y : Nat) (c1 : W.cell? ⟨X, 1, none⟩ = some (.slice C 3 cc)) (hX : X < W.heap.size) (cy : W.cell? ⟨Y, 0, none⟩ = some (.func (.func 203) #[] #[.pointer (some ⟨X, 0, none⟩)])) (hY : Y < W.heap.size) => show Calls Tryz.prog 116 #[.slice A n c, .func (.func 204) #[] #[.pointer (some ⟨Y, 0, none⟩)]] W fun e w' => e = .returned (.bool false) ∧ Below W.heap.size W w' from by
    have h1 := containsRc_any 204 #[.pointer (some ⟨Y, 0, none⟩)] (fun _ => false) A n c l W (hA.below h) eg2 (fun W2 hW2 x hx => by
      show Calls Tryz.prog 204 #[.agg #[.int .i64 x.1.yr, .int .i64 x.1.cr, .slice x.2.a x.1.rg.length x.2.c], .pointer (some ⟨Y, 0, none⟩)] W2 _
      exact wrongR_any x.1 x.2 C cc X Y W2 (hl.hy.ok _ (List.mem_map_of_mem hx)).cr.1 (hl.cr _ (List.mem_map_of_mem hx)) ((hW2.cell (p := ⟨X, 1, none⟩) hX).trans c1) (Nat.lt_of_lt_of_le hX hW2.size) ((hW2.cell (p := ⟨Y, 0, none⟩) hY).trans cy) (Nat.lt_of_lt_of_le hY hW2.size))
    rw [show l.any (fun _ => false) = false from by simp] at h1
    exact h1)
  rw [hP] at HV
  clear hA hl hC hB hP hy
  go_enter Tryz.func106, Tryz.ntmps106
  go_upto_region 1 with fail
  obtain ⟨w1, hw1⟩ : ∃ w1 : World, w1 = (w.alloc (.cells #[.int .i64 y, .slice C 3 cc, .slice A n c, .slice none 0 0, .int .i64 0, .int .i64 0, .slice B m d, .int .i64 1, .int .i64 0, .slice B m d] 163)).alloc (.cells #[.int .i64 7, .int .i64 1, .int .i64 2, .slice none 0 0] 84) := ⟨_, rfl⟩
  rw [← hw1]
  have Hr1 : Hid (w1.heap[w.heap.size]? = some (.cells #[.int .i64 y, .slice C 3 cc, .slice A n c, .slice none 0 0, .int .i64 0, .int .i64 0, .slice B m d, .int .i64 1, .int .i64 0, .slice B m d] 163 (0, 0))) := Lib.hid (by rw [hw1]; exact (Below.heap_alloc _ _ _ (by simp)).trans (heap_alloc_new w _))
  have hq1 : w1.heap[w.heap.size + 1]? = some (.cells #[.int .i64 7, .int .i64 1, .int .i64 2, .slice none 0 0] 84 (0, 0)) := by rw [hw1]; exact heap_alloc2_new w _ _
  have Hb1 : Hid (Below w.heap.size w w1) := Lib.hid (by rw [hw1]; exact (by repeat' (first | with_reducible exact Below.refl _ _ | with_reducible refine below_drewN ?_ _ | with_reducible refine Below.drew ?_ | with_reducible refine Below.alloc ?_ ?_ _ | with_reducible refine Below.setCell ?_ ?_ _ | with_reducible refine Below.trans ?_ (Below.mono (by with_reducible assumption) ?_) | (simp; done) | (simp; omega) | omega)))
  have hs1 : w.heap.size + 1 < w1.heap.size := by rw [hw1]; simp
  have t0 := cell_of_row _ _ 0 _ _ _ hq1; have t1 := cell_of_row _ _ 1 _ _ _ hq1; have t2 := cell_of_row _ _ 2 _ _ _ hq1; have t3 := cell_of_row _ _ 3 _ _ _ hq1
  clear hw1 hq1
  go_upto_region 2 with (first
    | (go_at_call 202
       refine (checkTm_any _).mono ?_
       rintro e w2 ⟨rfl, hb2⟩
       have Hr2 := Lib.hid ((hb2.block w.heap.size (by omega)).trans Hr1.out)
       have Hb2 := Lib.hid (Hb1.out.trans (hb2.mono Hb1.out.size))
       have hs2 : w.heap.size + 1 < w2.heap.size := Nat.lt_of_lt_of_le hs1 hb2.size
       clear hb2 t0 t1 t2 t3)
    | fail)
  have e1 := cell_of_row _ _ 1 _ _ _ Hr2.out
  go_upto_region 7 with (first
    | (go_at_call 124
       refine (HCC.out _ Hb2.out).mono ?_
       rintro e w3 ⟨rfl, hb3⟩
       have Hr3 := Lib.hid ((hb3.block w.heap.size (by omega)).trans Hr2.out)
       have Hb3 := Lib.hid (Hb2.out.trans (hb3.mono Hb2.out.size))
       have hs3 : w.heap.size + 1 < w3.heap.size := Nat.lt_of_lt_of_le hs2 hb3.size
       clear hb3 e1)
    | fail)
  go_upto_region 8 with fail
  obtain ⟨w4, hw4⟩ : ∃ w4 : World, w4 = w3.alloc (.cells #[.func (.func 203) #[] #[.pointer (some ⟨w.heap.size, 0, none⟩)]] 156) := ⟨_, rfl⟩
  rw [← hw4]
  have hf4 : w4.heap[w3.heap.size]? = some (.cells #[.func (.func 203) #[] #[.pointer (some ⟨w.heap.size, 0, none⟩)]] 156 (0, 0)) := by rw [hw4]; exact heap_alloc_new w3 _
  have Hb34 : Hid (Below w3.heap.size w3 w4) := Lib.hid (by rw [hw4]; exact (by repeat' (first | with_reducible exact Below.refl _ _ | with_reducible refine below_drewN ?_ _ | with_reducible refine Below.drew ?_ | with_reducible refine Below.alloc ?_ ?_ _ | with_reducible refine Below.setCell ?_ ?_ _ | with_reducible refine Below.trans ?_ (Below.mono (by with_reducible assumption) ?_) | (simp; done) | (simp; omega) | omega)))
  have hs4 : w3.heap.size < w4.heap.size := by rw [hw4]; simp
  have hr4 := (Hb34.out.block w.heap.size (by omega)).trans Hr3.out
  have Hr4 := Lib.hid hr4
  have Hb4 := Lib.hid (Hb3.out.trans (Hb34.out.mono Hb3.out.size))
  have cf := cell_of_row _ _ 0 _ _ _ hf4
  have c1 := cell_of_row _ _ 1 _ _ _ hr4
  have c2 := cell_of_row _ _ 2 _ _ _ hr4
  have c7 := cell_of_row _ _ 7 _ _ _ hr4
  have HW1 := Lib.hid (wrongP_any 1 C cc w.heap.size w4 c1 (by omega) (by omega))
  have HX4 := Lib.hid (HX.out w4 Hb4.out w.heap.size w3.heap.size c1 (by omega) cf hs4)
  clear hw4 hf4 hr4
  go_upto_region 10 with (first
    | (go_at_call 203; refine HW1.out.mono ?_; rintro e w' ⟨rfl, rfl⟩)
    | (go_at_call 116
       refine HX4.out.mono ?_
       rintro e w5 ⟨rfl, hb5⟩
       have hr5 := (hb5.block w.heap.size (by omega)).trans Hr4.out
       have Hr5 := Lib.hid hr5
       have g2 := cell_of_row _ _ 2 _ _ _ hr5
       have Hb5 := Lib.hid (Hb4.out.trans (hb5.mono Hb4.out.size))
       have hs5 : w.heap.size + 1 < w5.heap.size := Nat.lt_of_lt_of_le (by omega) hb5.size
       clear hb5 hr5 c1 c2 c7 cf)
    | fail)
  clear HX4 HW1
  go_upto_region 11 with (first
    | (go_at_call 98
       refine (HK.out _ Hb5.out).mono ?_
       rintro e w6 ⟨rfl, hb6⟩
       have hr6 := (hb6.block w.heap.size (by omega)).trans Hr5.out
       have Hr6 := Lib.hid hr6
       have g0 := cell_of_row _ _ 0 _ _ _ hr6
       have g3 := cell_of_row _ _ 3 _ _ _ hr6
       have g4 := cell_of_row _ _ 4 _ _ _ hr6
       have Hb6 := Lib.hid (Hb5.out.trans (hb6.mono Hb5.out.size))
       have hs6 : w.heap.size + 1 < w6.heap.size := Nat.lt_of_lt_of_le hs5 hb6.size
       clear hb6 hr6 g2)
    | fail)
  go_wp2_with (first
    | (go_at_call 19
       refine (HO.out _).mono ?_
       rintro e w7 ⟨mm, vv, rfl, hfo, hmm, hb7⟩
       have hr7 := (hb7.block w.heap.size (by omega)).trans Hr6.out
       have q5 := cell_of_row _ _ 5 _ _ _ hr7
       have q6 := cell_of_row _ _ 6 _ _ _ hr7
       have Hb7 := Lib.hid (Hb6.out.trans (hb7.mono Hb6.out.size))
       clear hb7 hr7 hfo hmm g0 g3 g4)
    | (go_at_call 48
       refine (HV.out _ Hb7.out).mono ?_
       rintro e w8 ⟨rfl, hb8⟩
       have Hb8 := Lib.hid (Hb7.out.trans (hb8.mono Hb7.out.size))
       clear hb8)
    | fail)
  go_ret
  exact ⟨rfl, Hb8.out⟩
end Go.Proofs.YtfmkmhhghmdakaaGreatDoor
namespace Go.Proofs.YtfmkmhhghmdakaaGreatDoor
open Go.RowKit Go.Shelf
set_option linter.unusedVariables false
set_option linter.unusedSimpArgs false

/-- Three rows of rectangles. -/
def SqPost (w : World) (P1 P2 P3 : List R4) (e : Ending) (w' : World) : Prop :=
  ∃ (v1 v2 v3 : LV), e = .returned (.agg #[.slice v1.a P1.length v1.c, .slice v2.a P2.length v2.c, .slice v3.a P3.length v3.c]) ∧ w'.ownsRow w.heap.size 68 4 (.slice v1.a P1.length v1.c) P1.length (rCells P1) ∧ w'.ownsRow w.heap.size 68 4 (.slice v2.a P2.length v2.c) P2.length (rCells P2) ∧ w'.ownsRow w.heap.size 68 4 (.slice v3.a P3.length v3.c) P3.length (rCells P3) ∧ Below w.heap.size w w'

theorem sq3_cell {w : World} {g b j : Nat} {x y z : Value} (hb : b < w.heap.size) (h : b ≠ g) : (((w.setCell ⟨g, 0, none⟩ x).setCell ⟨g, 1, none⟩ y).setCell ⟨g, 2, none⟩ z).cell? ⟨b, j, none⟩ = w.cell? ⟨b, j, none⟩ := by
  have h1 := (sq3_only (w := w) (g := g) (x := x) (y := y) (z := z)).block b hb (by intro e; injection e with e; exact h e)
  unfold World.cell?
  rw [h1]
set_option maxHeartbeats 8000000 in
set_option maxRecDepth 100000 in
theorem atomTm_any (A : Option Addr) (n c : Nat) (l : RcL) (C : Option Addr) (cc : Nat) (B : Option Addr) (m d : Nat) (P : List R4) (y : Int) (w : World) (hA : SlRc w A n c l) (hl : HyR (rcs l)) (hn : n ≤ 24) (hC : SlC w C 3 cc grassy) (hB : SlR w B m d P) (hm : m ≤ 243) (hP : InS 9 P) (hy : 1 ≤ y ∧ y ≤ 100) :
    Calls Tryz.prog 207 #[.agg #[.int .i64 y, .slice C 3 cc, .slice A n c, .slice none 0 0, .int .i64 0, .int .i64 0, .slice B m d, .int .i64 1, .int .i64 0, .slice B m d], beforeV] w (SqPost w (chooseP andB P (rectsP (rcs l) (y - 1) grassB)) (chooseP andB P (rectsP (rcs l) (y - 1) fun k => !grassB k)) (chooseP notB (chooseP notB P (chooseP andB P (rectsP (rcs l) (y - 1) grassB))) (chooseP andB P (rectsP (rcs l) (y - 1) fun k => !grassB k)))) := by
  have eg2 : ∀ args w, (callFunc 281 args).run Tryz.prog w = .ok (.enter 281 args) w := enters_of Tryz.func281 (by kernel_rfl) rfl
  have eg3 : ∀ args w, (callFunc 282 args).run Tryz.prog w = .ok (.enter 282 args) w := enters_of Tryz.func282 (by kernel_rfl) rfl
  have HY := Lib.hid (fun W (h : Below w.heap.size w W) (X Z : Nat) (c1 : W.cell? ⟨X, 1, none⟩ = some (.slice C 3 cc)) (hX : X < W.heap.size) (t2 : W.cell? ⟨Z, 2, none⟩ = some (.int .i64 2)) (hZ : Z < W.heap.size) => knownTm_any A n c l C cc B m d P y 281 #[.pointer (some ⟨X, 0, none⟩), .pointer (some ⟨Z, 0, none⟩)] grassB W (hA.below h) hl hn (hB.below h) hm hP hy eg2 (fun W2 k hW2 hk0 hk3 => by
    show Calls Tryz.prog 281 #[.int .i64 k, .pointer (some ⟨X, 0, none⟩), .pointer (some ⟨Z, 0, none⟩)] W2 _
    refine (before1_any k C cc X Z W2 (hC.below (h.trans (hW2.mono h.size))) ((hW2.cell (p := ⟨X, 1, none⟩) hX).trans c1) ((hW2.cell (p := ⟨Z, 2, none⟩) hZ).trans t2) hk0 hk3).mono ?_
    rintro e w' ⟨rfl, rfl⟩
    exact ⟨rfl, Below.refl _ _⟩))
  have HN := Lib.hid (fun W (h : Below w.heap.size w W) (X Z : Nat) (c1 : W.cell? ⟨X, 1, none⟩ = some (.slice C 3 cc)) (hX : X < W.heap.size) (t2 : W.cell? ⟨Z, 2, none⟩ = some (.int .i64 2)) (hZ : Z < W.heap.size) => knownTm_any A n c l C cc B m d P y 282 #[.pointer (some ⟨X, 0, none⟩), .pointer (some ⟨Z, 0, none⟩)] (fun k => !grassB k) W (hA.below h) hl hn (hB.below h) hm hP hy eg3 (fun W2 k hW2 hk0 hk3 => by
    show Calls Tryz.prog 282 #[.int .i64 k, .pointer (some ⟨X, 0, none⟩), .pointer (some ⟨Z, 0, none⟩)] W2 _
    refine (before2_any k C cc X Z W2 (hC.below (h.trans (hW2.mono h.size))) ((hW2.cell (p := ⟨X, 1, none⟩) hX).trans c1) ((hW2.cell (p := ⟨Z, 2, none⟩) hZ).trans t2) hk0 hk3).mono ?_
    rintro e w' ⟨rfl, rfl⟩
    exact ⟨rfl, Below.refl _ _⟩))
  have i1 := choose_in andB rfl hP (rects_in hl (y - 1) grassB)
  have l1 := choose_len andB 9 P (rectsP (rcs l) (y - 1) grassB) hP (rects_in hl (y - 1) grassB)
  have i2 := choose_in andB rfl hP (rects_in hl (y - 1) fun k => !grassB k)
  have l2 := choose_len andB 9 P (rectsP (rcs l) (y - 1) fun k => !grassB k) hP (rects_in hl (y - 1) fun k => !grassB k)
  generalize chooseP andB P (rectsP (rcs l) (y - 1) grassB) = Q1 at *
  generalize chooseP andB P (rectsP (rcs l) (y - 1) fun k => !grassB k) = Q2 at *
  have HR := Lib.hid (fun W (h : Below w.heap.size w W) A1 c1 A2 c2 (h1 : SlR W A1 Q1.length c1 Q1) (h2 : SlR W A2 Q2.length c2 Q2) => restTm_any A n c C cc B m d P y A1 Q1.length c1 Q1 A2 Q2.length c2 Q2 W (hB.below h) hm hP h1 (by omega) i1 h2 (by omega) i2)
  generalize chooseP notB (chooseP notB P Q1) Q2 = Q3 at *
  clear hA hl hC hB hP hy eg2 eg3 i1 i2 l1 l2
  go_enter Tryz.func207, Tryz.ntmps207
  go_upto_region 1 with fail
  obtain ⟨w1, hw1⟩ : ∃ w1 : World, w1 = ((w.alloc (.cells #[.int .i64 y, .slice C 3 cc, .slice A n c, .slice none 0 0, .int .i64 0, .int .i64 0, .slice B m d, .int .i64 1, .int .i64 0, .slice B m d] 163)).alloc (.cells #[.int .i64 7, .int .i64 1, .int .i64 2, .slice none 0 0] 84)).alloc (.cells #[.slice none 0 0, .slice none 0 0, .slice none 0 0] 166) := ⟨_, rfl⟩
  rw [← hw1]
  have hr1 : w1.heap[w.heap.size]? = some (.cells #[.int .i64 y, .slice C 3 cc, .slice A n c, .slice none 0 0, .int .i64 0, .int .i64 0, .slice B m d, .int .i64 1, .int .i64 0, .slice B m d] 163 (0, 0)) := by rw [hw1]; exact (Below.heap_alloc _ _ _ (by simp; omega)).trans ((Below.heap_alloc _ _ _ (by simp)).trans (heap_alloc_new w _))
  have hq1 : w1.heap[w.heap.size + 1]? = some (.cells #[.int .i64 7, .int .i64 1, .int .i64 2, .slice none 0 0] 84 (0, 0)) := by rw [hw1]; exact (Below.heap_alloc _ _ _ (by simp)).trans (heap_alloc2_new w _ _)
  have Hz1 : Hid (w1.heap[w.heap.size + 1 + 1]? = some (.cells #[.slice none 0 0, .slice none 0 0, .slice none 0 0] 166 (0, 0))) := Lib.hid (by rw [hw1]; have h3 := heap_alloc_new ((w.alloc (.cells #[.int .i64 y, .slice C 3 cc, .slice A n c, .slice none 0 0, .int .i64 0, .int .i64 0, .slice B m d, .int .i64 1, .int .i64 0, .slice B m d] 163)).alloc (.cells #[.int .i64 7, .int .i64 1, .int .i64 2, .slice none 0 0] 84)) (.cells #[.slice none 0 0, .slice none 0 0, .slice none 0 0] 166); simpa using h3)
  have Hr1 := Lib.hid hr1
  have Hq1 := Lib.hid hq1
  have Hb1 : Hid (Below w.heap.size w w1) := Lib.hid (by rw [hw1]; exact (by repeat' (first | with_reducible exact Below.refl _ _ | with_reducible refine below_drewN ?_ _ | with_reducible refine Below.drew ?_ | with_reducible refine Below.alloc ?_ ?_ _ | with_reducible refine Below.setCell ?_ ?_ _ | with_reducible refine Below.trans ?_ (Below.mono (by with_reducible assumption) ?_) | (simp; done) | (simp; omega) | omega)))
  have hs1 : w.heap.size + 1 + 1 < w1.heap.size := by rw [hw1]; simp
  have c0 := cell_of_row _ _ 0 _ _ _ hr1; have c1 := cell_of_row _ _ 1 _ _ _ hr1; have c2 := cell_of_row _ _ 2 _ _ _ hr1; have c3 := cell_of_row _ _ 3 _ _ _ hr1; have c4 := cell_of_row _ _ 4 _ _ _ hr1; have c5 := cell_of_row _ _ 5 _ _ _ hr1; have c6 := cell_of_row _ _ 6 _ _ _ hr1; have c7 := cell_of_row _ _ 7 _ _ _ hr1; have c8 := cell_of_row _ _ 8 _ _ _ hr1; have c9 := cell_of_row _ _ 9 _ _ _ hr1
  have t0 := cell_of_row _ _ 0 _ _ _ hq1; have t1 := cell_of_row _ _ 1 _ _ _ hq1; have t2 := cell_of_row _ _ 2 _ _ _ hq1; have t3 := cell_of_row _ _ 3 _ _ _ hq1
  clear hw1 hr1 hq1
  have HY1 := Lib.hid (HY.out w1 Hb1.out w.heap.size (w.heap.size + 1) c1 (by omega) t2 (by omega))
  go_upto_region 15 with (first
    | (go_at_call 280
       refine HY1.out.mono ?_
       rintro e w2 ⟨v2, rfl, hown2, hb2⟩
       obtain ⟨A2, c2', rfl, hS2⟩ := SlR.of_own hown2
       have HS2 := Lib.hid hS2
       have Hown2 := Lib.hid (own_rebase (base' := w.heap.size + 1 + 1 + 1) hown2 (by omega))
       have hr2 := (hb2.block w.heap.size (by omega)).trans Hr1.out
       have hq2 := (hb2.block (w.heap.size + 1) (by omega)).trans Hq1.out
       have Hr2 := Lib.hid hr2
       have Hq2 := Lib.hid hq2
       have Hz2 := Lib.hid ((hb2.block (w.heap.size + 1 + 1) (by omega)).trans Hz1.out)
       have Hb2 := Lib.hid (Hb1.out.trans (hb2.mono Hb1.out.size))
       have hs2 : w.heap.size + 1 + 1 < w2.heap.size := Nat.lt_of_lt_of_le hs1 hb2.size
       clear hown2 hb2 hS2 c0 c1 c2 c3 c4 c5 c6 c7 c8 c9 t0 t1 t2 t3)
    | fail)
  have c0 := cell_of_row _ _ 0 _ _ _ hr2; have c1 := cell_of_row _ _ 1 _ _ _ hr2; have c2 := cell_of_row _ _ 2 _ _ _ hr2; have c3 := cell_of_row _ _ 3 _ _ _ hr2; have c4 := cell_of_row _ _ 4 _ _ _ hr2; have c5 := cell_of_row _ _ 5 _ _ _ hr2; have c6 := cell_of_row _ _ 6 _ _ _ hr2; have c7 := cell_of_row _ _ 7 _ _ _ hr2; have c8 := cell_of_row _ _ 8 _ _ _ hr2; have c9 := cell_of_row _ _ 9 _ _ _ hr2
  have t0 := cell_of_row _ _ 0 _ _ _ hq2; have t1 := cell_of_row _ _ 1 _ _ _ hq2; have t2 := cell_of_row _ _ 2 _ _ _ hq2; have t3 := cell_of_row _ _ 3 _ _ _ hq2
  clear hr2 hq2 HY1
  go_region_held3 (fun w' => w'.cell? ⟨w.heap.size, 0, none⟩ = some (.int .i64 y) ∧ w'.cell? ⟨w.heap.size, 1, none⟩ = some (.slice C 3 cc) ∧ w'.cell? ⟨w.heap.size, 2, none⟩ = some (.slice A n c) ∧ w'.cell? ⟨w.heap.size, 3, none⟩ = some (.slice none 0 0) ∧ w'.cell? ⟨w.heap.size, 4, none⟩ = some (.int .i64 0) ∧ w'.cell? ⟨w.heap.size, 5, none⟩ = some (.int .i64 0) ∧ w'.cell? ⟨w.heap.size, 6, none⟩ = some (.slice B m d) ∧ w'.cell? ⟨w.heap.size, 7, none⟩ = some (.int .i64 1) ∧ w'.cell? ⟨w.heap.size, 8, none⟩ = some (.int .i64 0) ∧ w'.cell? ⟨w.heap.size, 9, none⟩ = some (.slice B m d) ∧ w'.cell? ⟨w.heap.size + 1, 1, none⟩ = some (.int .i64 1))
    (first | ((repeat' apply And.intro) <;> (first | go_keep | exact (sq3_cell (by omega) (by omega)).trans (by assumption)); done) | go_keep)
    (first
      | (go_at_call 280
         refine (HN.out _ (by exact Hb2.out.trans (Below.mono (by repeat' (first | with_reducible exact Below.refl _ _ | with_reducible refine below_drewN ?_ _ | with_reducible refine Below.drew ?_ | with_reducible refine Below.alloc ?_ ?_ _ | with_reducible refine Below.setCell ?_ ?_ _ | with_reducible refine Below.trans ?_ (Below.mono (by with_reducible assumption) ?_) | (simp; done) | (simp; omega) | omega)) Hb2.out.size)) w.heap.size (w.heap.size + 1) (by exact c1) (by exact Nat.lt_of_lt_of_le (show w.heap.size < w2.heap.size by omega) (by simp)) (by exact t2) (by exact Nat.lt_of_lt_of_le (show w.heap.size + 1 < w2.heap.size by omega) (by simp))).mono ?_
         rintro e w3 ⟨v3, rfl, hown3, hb3⟩
         obtain ⟨A3, c3', rfl, hS3⟩ := SlR.of_own hown3
         have HS3 := Lib.hid hS3
         have Hb3 : Hid (Below w2.heap.size w2 w3) := Lib.hid (show Below w2.heap.size w2 w3 from (by have hbq := hb3; exact (by repeat' (first | with_reducible exact Below.refl _ _ | with_reducible assumption | with_reducible refine below_drewN ?_ _ | with_reducible refine Below.drew ?_ | with_reducible refine Below.alloc ?_ ?_ _ | with_reducible refine Below.setCell ?_ ?_ _ | with_reducible refine Below.trans ?_ (Below.mono (by with_reducible assumption) ?_) | with_reducible refine below_only ?_ (by with_reducible assumption) ?_ ?_ | (simp; done) | (simp; omega) | omega))))
         have Hown3 := Lib.hid (own_rebase (base' := w.heap.size + 1 + 1 + 1) (base := w2.heap.size) hown3 (by omega))
         have Hr3 := Lib.hid ((Hb3.out.block w.heap.size (by omega)).trans Hr2.out)
         have Hq3 := Lib.hid ((Hb3.out.block (w.heap.size + 1) (by omega)).trans Hq2.out)
         have Hz3 := Lib.hid ((Hb3.out.block (w.heap.size + 1 + 1) (by omega)).trans Hz2.out)
         have hs3 : w.heap.size + 1 + 1 < w3.heap.size := Nat.lt_of_lt_of_le hs2 Hb3.out.size
         have d0 := cell_of_row _ _ 0 _ _ _ Hr3.out; have d1 := cell_of_row _ _ 1 _ _ _ Hr3.out; have d2 := cell_of_row _ _ 2 _ _ _ Hr3.out; have d3 := cell_of_row _ _ 3 _ _ _ Hr3.out; have d4 := cell_of_row _ _ 4 _ _ _ Hr3.out; have d5 := cell_of_row _ _ 5 _ _ _ Hr3.out; have d6 := cell_of_row _ _ 6 _ _ _ Hr3.out; have d7 := cell_of_row _ _ 7 _ _ _ Hr3.out; have d8 := cell_of_row _ _ 8 _ _ _ Hr3.out; have d9 := cell_of_row _ _ 9 _ _ _ Hr3.out
         have u1 := cell_of_row _ _ 1 _ _ _ Hq3.out
         clear hown3 hb3 hS3)
      | (go_at_call 275
         refine (HR.out _ (Hb2.out.trans (Below.mono (Hb3.out.trans (Below.mono (by repeat' (first | with_reducible exact Below.refl _ _ | with_reducible refine below_drewN ?_ _ | with_reducible refine Below.drew ?_ | with_reducible refine Below.alloc ?_ ?_ _ | with_reducible refine Below.setCell ?_ ?_ _ | with_reducible refine Below.trans ?_ (Below.mono (by with_reducible assumption) ?_) | (simp; done) | (simp; omega) | omega)) Hb3.out.size)) Hb2.out.size)) A2 c2' A3 c3' ((HS2.out.below Hb3.out).below (Below.mono (by repeat' (first | with_reducible exact Below.refl _ _ | with_reducible refine below_drewN ?_ _ | with_reducible refine Below.drew ?_ | with_reducible refine Below.alloc ?_ ?_ _ | with_reducible refine Below.setCell ?_ ?_ _ | with_reducible refine Below.trans ?_ (Below.mono (by with_reducible assumption) ?_) | (simp; done) | (simp; omega) | omega)) (Nat.le_refl _))) (HS3.out.below (by repeat' (first | with_reducible exact Below.refl _ _ | with_reducible refine below_drewN ?_ _ | with_reducible refine Below.drew ?_ | with_reducible refine Below.alloc ?_ ?_ _ | with_reducible refine Below.setCell ?_ ?_ _ | with_reducible refine Below.trans ?_ (Below.mono (by with_reducible assumption) ?_) | (simp; done) | (simp; omega) | omega)))).mono ?_
         rintro e w4 ⟨v4, rfl, hown4, hb4⟩
         obtain ⟨A4, c4', rfl, _, _, _⟩ := own_slice hown4
         have Hb4 : Hid (Below w3.heap.size w3 w4) := Lib.hid (show Below w3.heap.size w3 w4 from (by have hbq := hb4; exact (by repeat' (first | with_reducible exact Below.refl _ _ | with_reducible assumption | with_reducible refine below_drewN ?_ _ | with_reducible refine Below.drew ?_ | with_reducible refine Below.alloc ?_ ?_ _ | with_reducible refine Below.setCell ?_ ?_ _ | with_reducible refine Below.trans ?_ (Below.mono (by with_reducible assumption) ?_) | with_reducible refine below_only ?_ (by with_reducible assumption) ?_ ?_ | (simp; done) | (simp; omega) | omega))))
         have Hown4 := Lib.hid (own_rebase (base' := w.heap.size + 1 + 1 + 1) (base := w3.heap.size) hown4 (by omega))
         have Hr4 := Lib.hid ((Hb4.out.block w.heap.size (by omega)).trans Hr3.out)
         have Hq4 := Lib.hid ((Hb4.out.block (w.heap.size + 1) (by omega)).trans Hq3.out)
         have hz4 := (Hb4.out.block (w.heap.size + 1 + 1) (by omega)).trans Hz3.out
         have Hz4 := Lib.hid hz4
         have hs4 : w.heap.size + 1 + 1 < w4.heap.size := Nat.lt_of_lt_of_le hs3 Hb4.out.size
         have p0 := cell_of_row _ _ 0 _ _ _ Hr4.out; have p1 := cell_of_row _ _ 1 _ _ _ Hr4.out; have p2 := cell_of_row _ _ 2 _ _ _ Hr4.out; have p3 := cell_of_row _ _ 3 _ _ _ Hr4.out; have p4 := cell_of_row _ _ 4 _ _ _ Hr4.out; have p5 := cell_of_row _ _ 5 _ _ _ Hr4.out; have p6 := cell_of_row _ _ 6 _ _ _ Hr4.out; have p7 := cell_of_row _ _ 7 _ _ _ Hr4.out; have p8 := cell_of_row _ _ 8 _ _ _ Hr4.out; have p9 := cell_of_row _ _ 9 _ _ _ Hr4.out
         have s1 := cell_of_row _ _ 1 _ _ _ Hq4.out
         have z0 := cell_of_row _ _ 0 _ _ _ hz4
         have z1 := cell_of_row _ _ 1 _ _ _ hz4
         have z2 := cell_of_row _ _ 2 _ _ _ hz4
         have g0 := frozen_of_row _ _ 0 _ _ hz4
         have g1 := frozen_of_row _ _ 1 _ _ hz4
         have g2 := frozen_of_row _ _ 2 _ _ hz4
         clear hown4 hb4 hz4)
      | fail)
  all_goals go_wp2
  all_goals have hz5 := sq3 (x := .slice A2 Q1.length c2') (y := .slice A3 Q2.length c3') (z := .slice A4 Q3.length c4') Hz4.out
  all_goals have y0 := cell_of_row _ _ 0 _ _ _ hz5
  all_goals have y1 := cell_of_row _ _ 1 _ _ _ hz5
  all_goals have y2 := cell_of_row _ _ 2 _ _ _ hz5
  all_goals refine bodyPost_ret (v := .agg #[.slice A2 Q1.length c2', .slice A3 Q2.length c3', .slice A4 Q3.length c4']) (by simp only [results, Tryz.results207, go_sem, y0, y1, y2]; first | rfl | simp [go_sem, *]) rfl ?_
  all_goals exact ⟨⟨A2, c2'⟩, ⟨A3, c3'⟩, ⟨A4, c4'⟩, rfl, own_rebase (own_other (ownsRow_below (ownsRow_below Hown2.out Hb3.out) Hb4.out) sq3_only (fun k hk e => by injection e with e; have := own_base Hown2.out k hk; omega)) (by omega), own_rebase (own_other (ownsRow_below Hown3.out Hb4.out) sq3_only (fun k hk e => by injection e with e; have := own_base Hown3.out k hk; omega)) (by omega), own_rebase (own_other Hown4.out sq3_only (fun k hk e => by injection e with e; have := own_base Hown4.out k hk; omega)) (by omega), sq3_below (Hb2.out.trans ((Hb3.out.trans (Hb4.out.mono Hb3.out.size)).mono Hb2.out.size)) (by omega)⟩
set_option maxHeartbeats 4000000 in
set_option maxRecDepth 100000 in
theorem evalPl_any (A : Option Addr) (n c : Nat) (C : Option Addr) (cc : Nat) (B : Option Addr) (m d : Nat) (y : Int) (Q1 Q2 Q3 : List R4) (w : World) (HQ : ∀ W, Below w.heap.size w W → Calls Tryz.prog 207 #[.agg #[.int .i64 y, .slice C 3 cc, .slice A n c, .slice none 0 0, .int .i64 0, .int .i64 0, .slice B m d, .int .i64 1, .int .i64 0, .slice B m d], beforeV] W (SqPost W Q1 Q2 Q3)) :
    Calls Tryz.prog 107 #[.agg #[.int .i64 y, .slice C 3 cc, .slice A n c, .slice none 0 0, .int .i64 0, .int .i64 0, .slice B m d, .int .i64 1, .int .i64 0, .slice B m d], beforeV] w (SqPost w Q1 Q2 Q3) := by
  have HAt := Lib.hid HQ
  clear HQ
  go_enter Tryz.func107, Tryz.ntmps107
  go_upto_region 1 with fail
  obtain ⟨w1, hw1⟩ : ∃ w1 : World, w1 = ((w.alloc (.cells #[.int .i64 y, .slice C 3 cc, .slice A n c, .slice none 0 0, .int .i64 0, .int .i64 0, .slice B m d, .int .i64 1, .int .i64 0, .slice B m d] 163)).alloc (.cells #[.int .i64 7, .int .i64 1, .int .i64 2, .slice none 0 0] 84)).alloc (.cells #[.slice none 0 0, .slice none 0 0, .slice none 0 0] 166) := ⟨_, rfl⟩
  rw [← hw1]
  have hr1 : w1.heap[w.heap.size]? = some (.cells #[.int .i64 y, .slice C 3 cc, .slice A n c, .slice none 0 0, .int .i64 0, .int .i64 0, .slice B m d, .int .i64 1, .int .i64 0, .slice B m d] 163 (0, 0)) := by rw [hw1]; exact (Below.heap_alloc _ _ _ (by simp; omega)).trans ((Below.heap_alloc _ _ _ (by simp)).trans (heap_alloc_new w _))
  have hq1 : w1.heap[w.heap.size + 1]? = some (.cells #[.int .i64 7, .int .i64 1, .int .i64 2, .slice none 0 0] 84 (0, 0)) := by rw [hw1]; exact (Below.heap_alloc _ _ _ (by simp)).trans (heap_alloc2_new w _ _)
  have Hz1 : Hid (w1.heap[w.heap.size + 1 + 1]? = some (.cells #[.slice none 0 0, .slice none 0 0, .slice none 0 0] 166 (0, 0))) := Lib.hid (by rw [hw1]; have h3 := heap_alloc_new ((w.alloc (.cells #[.int .i64 y, .slice C 3 cc, .slice A n c, .slice none 0 0, .int .i64 0, .int .i64 0, .slice B m d, .int .i64 1, .int .i64 0, .slice B m d] 163)).alloc (.cells #[.int .i64 7, .int .i64 1, .int .i64 2, .slice none 0 0] 84)) (.cells #[.slice none 0 0, .slice none 0 0, .slice none 0 0] 166); simpa using h3)
  have Hb1 : Hid (Below w.heap.size w w1) := Lib.hid (by rw [hw1]; exact (by repeat' (first | with_reducible exact Below.refl _ _ | with_reducible refine below_drewN ?_ _ | with_reducible refine Below.drew ?_ | with_reducible refine Below.alloc ?_ ?_ _ | with_reducible refine Below.setCell ?_ ?_ _ | with_reducible refine Below.trans ?_ (Below.mono (by with_reducible assumption) ?_) | (simp; done) | (simp; omega) | omega)))
  have hs1 : w.heap.size + 1 + 1 < w1.heap.size := by rw [hw1]; simp
  have c0 := cell_of_row _ _ 0 _ _ _ hr1; have c1 := cell_of_row _ _ 1 _ _ _ hr1; have c2 := cell_of_row _ _ 2 _ _ _ hr1; have c3 := cell_of_row _ _ 3 _ _ _ hr1; have c4 := cell_of_row _ _ 4 _ _ _ hr1; have c5 := cell_of_row _ _ 5 _ _ _ hr1; have c6 := cell_of_row _ _ 6 _ _ _ hr1; have c7 := cell_of_row _ _ 7 _ _ _ hr1; have c8 := cell_of_row _ _ 8 _ _ _ hr1; have c9 := cell_of_row _ _ 9 _ _ _ hr1
  have t0 := cell_of_row _ _ 0 _ _ _ hq1; have t1 := cell_of_row _ _ 1 _ _ _ hq1; have t2 := cell_of_row _ _ 2 _ _ _ hq1; have t3 := cell_of_row _ _ 3 _ _ _ hq1
  clear hw1 hr1 hq1
  go_upto_region 3 with fail
  go_loopw [5, 7, 8, 12] (fun lv _ _ iv wr => lv = .slice none 0 0 ∧ iv = .int .i64 0 ∧ wr = w1) (fun _ _ _ _ _ => 0)
  case atStart => exact ⟨rfl, rfl, rfl⟩
  case round =>
    obtain ⟨rfl, rfl, rfl⟩ := hrel
    go_wp2_with (first
      | (go_at_call 207
         refine (HAt.out _ Hb1.out).mono ?_
         rintro e w2 ⟨v1, v2, v3, rfl, hown1, hown2, hown3, hb2⟩
         have Hown1 := Lib.hid (own_rebase (base' := w.heap.size + 1 + 1 + 1) hown1 (by omega))
         have Hown2 := Lib.hid (own_rebase (base' := w.heap.size + 1 + 1 + 1) hown2 (by omega))
         have Hown3 := Lib.hid (own_rebase (base' := w.heap.size + 1 + 1 + 1) hown3 (by omega))
         have hz2 := (hb2.block (w.heap.size + 1 + 1) hs1).trans Hz1.out
         have Hz2 := Lib.hid hz2
         have z0 := cell_of_row _ _ 0 _ _ _ hz2
         have z1 := cell_of_row _ _ 1 _ _ _ hz2
         have z2 := cell_of_row _ _ 2 _ _ _ hz2
         have g0 := frozen_of_row _ _ 0 _ _ hz2
         have g1 := frozen_of_row _ _ 1 _ _ hz2
         have g2 := frozen_of_row _ _ 2 _ _ hz2
         have Hb2 := Lib.hid (Hb1.out.trans (hb2.mono Hb1.out.size))
         clear hown1 hown2 hown3 hb2 hz2 c0 c1 c2 c3 c4 c5 c6 c7 c8 c9 t0 t1 t2 t3)
      | fail)
    have hz5 := sq3 (x := .slice v1.a Q1.length v1.c) (y := .slice v2.a Q2.length v2.c) (z := .slice v3.a Q3.length v3.c) Hz2.out
    have y0 := cell_of_row _ _ 0 _ _ _ hz5
    have y1 := cell_of_row _ _ 1 _ _ _ hz5
    have y2 := cell_of_row _ _ 2 _ _ _ hz5
    refine bodyPost_ret (v := .agg #[.slice v1.a Q1.length v1.c, .slice v2.a Q2.length v2.c, .slice v3.a Q3.length v3.c]) (by simp only [results, Tryz.results107, go_sem, y0, y1, y2]; first | rfl | simp [go_sem, *]) rfl ?_
    exact ⟨v1, v2, v3, rfl, own_rebase (own_other Hown1.out sq3_only (fun k hk e => by injection e with e; have := own_base Hown1.out k hk; omega)) (by omega), own_rebase (own_other Hown2.out sq3_only (fun k hk e => by injection e with e; have := own_base Hown2.out k hk; omega)) (by omega), own_rebase (own_other Hown3.out sq3_only (fun k hk e => by injection e with e; have := own_base Hown3.out k hk; omega)) (by omega), sq3_below Hb2.out (by omega)⟩
theorem ofTm_any (B : Option Addr) (m d : Nat) (P : List R4) (w : World) (hB : SlR w B m d P) (hm : m ≤ 1000000) :
    Calls Tryz.prog 108 #[.slice B m d] w fun e w' => ∃ v : LV, e = .returned (.agg #[.slice v.a m v.c]) ∧ w'.ownsRow w.heap.size 68 4 (.slice v.a m v.c) m (rCells P) ∧ Below w.heap.size w w' := by
  have HC := Lib.hid (fun W (h : Below w.heap.size w W) => cloneR_any B m d P W (hB.below h) hm)
  clear hB
  go_enter Tryz.func108, Tryz.ntmps108
  go_upto_region 1 with fail
  obtain ⟨w1, hw1⟩ : ∃ w1 : World, w1 = w.alloc (.cells #[.slice none 0 0] 33) := ⟨_, rfl⟩
  rw [← hw1]
  have Hz1 : Hid (w1.heap[w.heap.size]? = some (.cells #[.slice none 0 0] 33 (0, 0))) := Lib.hid (by rw [hw1]; exact heap_alloc_new w _)
  have Hb1 : Hid (Below w.heap.size w w1) := Lib.hid (by rw [hw1]; exact (by repeat' (first | with_reducible exact Below.refl _ _ | with_reducible refine below_drewN ?_ _ | with_reducible refine Below.drew ?_ | with_reducible refine Below.alloc ?_ ?_ _ | with_reducible refine Below.setCell ?_ ?_ _ | with_reducible refine Below.trans ?_ (Below.mono (by with_reducible assumption) ?_) | (simp; done) | (simp; omega) | omega)))
  have hs1 : w.heap.size < w1.heap.size := by rw [hw1]; simp
  clear hw1
  go_wp2_with (first
    | (go_at_call 109
       refine (HC.out _ Hb1.out).mono ?_
       rintro e w4 ⟨v4, rfl, hown4, hb4⟩
       obtain ⟨A4, c4, rfl, _, _, _⟩ := own_slice hown4
       have Hown4 := Lib.hid (own_rebase (base' := w.heap.size + 1) hown4 (by omega))
       have hz4 := (hb4.block w.heap.size (by omega)).trans Hz1.out
       have Hb4 := Lib.hid (Hb1.out.trans (hb4.mono (by omega)))
       have z0 := cell_of_row _ _ 0 _ _ _ hz4
       have f0 := frozen_of_row _ _ 0 _ _ hz4
       have csame : (w4.setCell ⟨w.heap.size, 0, none⟩ (.slice A4 m c4)).cell? ⟨w.heap.size, 0, none⟩ = some (.slice A4 m c4) := by
         rw [cell_of_row _ w.heap.size 0 _ _ _ (heap_setCell_same w4 w.heap.size 0 _ _ _ hz4)]
         simp
       clear hown4 hb4 hz4)
    | fail)
  refine bodyPost_ret (v := .agg #[.slice A4 m c4]) (by simp [results, Tryz.results108, go_sem, *]) rfl ?_
  exact ⟨⟨A4, c4⟩, rfl, own_rebase (own_other Hown4.out (only_setCell (g := w.heap.size) (World.grownBy.refl _ _) (.inl rfl) _) (fun k hk e => by injection e with e; have := own_base Hown4.out k hk; omega)) (by omega), Hb4.out.setCell (Nat.le_refl _) _⟩
end Go.Proofs.YtfmkmhhghmdakaaGreatDoor
namespace Go.Proofs.YtfmkmhhghmdakaaGreatDoor
open Go.RowKit Go.Shelf
set_option linter.unusedVariables false
set_option linter.unusedSimpArgs false

/-- Three rows of rectangles, and no error. -/
def EvPost (w : World) (P1 P2 P3 : List R4) (e : Ending) (w' : World) : Prop :=
  ∃ (v1 v2 v3 : LV), e = .returned (.tuple #[.agg #[.slice v1.a P1.length v1.c, .slice v2.a P2.length v2.c, .slice v3.a P3.length v3.c], .int .i64 0]) ∧ w'.ownsRow w.heap.size 68 4 (.slice v1.a P1.length v1.c) P1.length (rCells P1) ∧ w'.ownsRow w.heap.size 68 4 (.slice v2.a P2.length v2.c) P2.length (rCells P2) ∧ w'.ownsRow w.heap.size 68 4 (.slice v3.a P3.length v3.c) P3.length (rCells P3) ∧ Below w.heap.size w w'

set_option maxHeartbeats 8000000 in
set_option maxRecDepth 100000 in
theorem evalW_any (A : Option Addr) (n c : Nat) (C : Option Addr) (cc : Nat) (B : Option Addr) (m d : Nat) (y : Int) (Q1 Q2 Q3 : List R4) (w : World) (hq1 : Q1.length ≤ 81) (hq2 : Q2.length ≤ 81) (hq3 : Q3.length ≤ 81) (h21 : ¬ Q1.length < Q2.length) (h31 : ¬ Q1.length < Q3.length)
    (HQ : ∀ W, Below w.heap.size w W → Calls Tryz.prog 107 #[.agg #[.int .i64 y, .slice C 3 cc, .slice A n c, .slice none 0 0, .int .i64 0, .int .i64 0, .slice B m d, .int .i64 1, .int .i64 0, .slice B m d], beforeV] W (SqPost W Q1 Q2 Q3))
    (HV : ∀ W, Below w.heap.size w W → Calls Tryz.prog 106 #[.agg #[.int .i64 y, .slice C 3 cc, .slice A n c, .slice none 0 0, .int .i64 0, .int .i64 0, .slice B m d, .int .i64 1, .int .i64 0, .slice B m d], beforeV] W fun e w' => e = .returned (.int .i64 0) ∧ Below W.heap.size W w') :
    Calls Tryz.prog 35 #[beforeV, .agg #[.int .i64 0, .slice B m d, .int .i64 1, .int .i64 0], .int .i64 y, .slice C 3 cc, .slice A n c, .slice none 0 0, .int .i64 0] w (EvPost w Q1 Q2 Q3) := by
  have eg : ∀ args w, (callFunc 108 args).run Tryz.prog w = .ok (.enter 108 args) w := enters_of Tryz.func108 (by kernel_rfl) rfl
  have HK := Lib.hid HV
  have HE := Lib.hid HQ
  have a1 : (Q1.length : Int) ≤ 81 := by omega
  have a2 : (Q2.length : Int) ≤ 81 := by omega
  have a3 : (Q3.length : Int) ≤ 81 := by omega
  have i21 : ¬ (Q1.length : Int) < (Q2.length : Int) := by omega
  have i31 : ¬ (Q1.length : Int) < (Q3.length : Int) := by omega
  have i11 : ¬ (120 : Int) < (Q1.length : Int) := by omega
  have n11 : ¬ 120 < Q1.length := by omega
  clear HQ HV
  go_enter Tryz.func35, Tryz.ntmps35
  go_upto_region 2 with fail
  obtain ⟨w1, hw1⟩ : ∃ w1 : World, w1 = (((w.alloc (.cells #[.int .i64 7, .int .i64 1, .int .i64 2, .slice none 0 0] 84)).alloc (.cells #[.int .i64 0, .slice B m d, .int .i64 1, .int .i64 0] 35)).alloc (.cells #[.slice none 0 0, .slice none 0 0, .slice none 0 0] 79)).alloc (.cells #[.int .i64 y, .slice C 3 cc, .slice A n c, .slice none 0 0, .int .i64 0, .int .i64 0, .slice B m d, .int .i64 1, .int .i64 0, .slice B m d] 163) := ⟨_, rfl⟩
  rw [← hw1]
  have hq1' : w1.heap[w.heap.size]? = some (.cells #[.int .i64 7, .int .i64 1, .int .i64 2, .slice none 0 0] 84 (0, 0)) := by rw [hw1]; exact (Below.heap_alloc _ _ _ (by simp; omega)).trans ((Below.heap_alloc _ _ _ (by simp; omega)).trans ((Below.heap_alloc _ _ _ (by simp)).trans (heap_alloc_new w _)))
  have Hz1 : Hid (w1.heap[w.heap.size + 1 + 1]? = some (.cells #[.slice none 0 0, .slice none 0 0, .slice none 0 0] 79 (0, 0))) := Lib.hid (by rw [hw1]; have h3 := heap_alloc_new ((w.alloc (.cells #[.int .i64 7, .int .i64 1, .int .i64 2, .slice none 0 0] 84)).alloc (.cells #[.int .i64 0, .slice B m d, .int .i64 1, .int .i64 0] 35)) (.cells #[.slice none 0 0, .slice none 0 0, .slice none 0 0] 79); exact (Below.heap_alloc _ _ _ (by simp)).trans (by simpa using h3))
  have hr1 : w1.heap[w.heap.size + 1 + 1 + 1]? = some (.cells #[.int .i64 y, .slice C 3 cc, .slice A n c, .slice none 0 0, .int .i64 0, .int .i64 0, .slice B m d, .int .i64 1, .int .i64 0, .slice B m d] 163 (0, 0)) := by rw [hw1]; have h3 := heap_alloc_new (((w.alloc (.cells #[.int .i64 7, .int .i64 1, .int .i64 2, .slice none 0 0] 84)).alloc (.cells #[.int .i64 0, .slice B m d, .int .i64 1, .int .i64 0] 35)).alloc (.cells #[.slice none 0 0, .slice none 0 0, .slice none 0 0] 79)) (.cells #[.int .i64 y, .slice C 3 cc, .slice A n c, .slice none 0 0, .int .i64 0, .int .i64 0, .slice B m d, .int .i64 1, .int .i64 0, .slice B m d] 163); simpa using h3
  have Hr1 := Lib.hid hr1
  have Hq1 := Lib.hid hq1'
  have Hb1 : Hid (Below w.heap.size w w1) := Lib.hid (by rw [hw1]; exact (by repeat' (first | with_reducible exact Below.refl _ _ | with_reducible refine below_drewN ?_ _ | with_reducible refine Below.drew ?_ | with_reducible refine Below.alloc ?_ ?_ _ | with_reducible refine Below.setCell ?_ ?_ _ | with_reducible refine Below.trans ?_ (Below.mono (by with_reducible assumption) ?_) | (simp; done) | (simp; omega) | omega)))
  have hs1 : w.heap.size + 1 + 1 + 1 < w1.heap.size := by rw [hw1]; simp
  clear hw1
  have c0 := cell_of_row _ _ 0 _ _ _ hr1; have c1 := cell_of_row _ _ 1 _ _ _ hr1; have c2 := cell_of_row _ _ 2 _ _ _ hr1; have c3 := cell_of_row _ _ 3 _ _ _ hr1; have c4 := cell_of_row _ _ 4 _ _ _ hr1; have c5 := cell_of_row _ _ 5 _ _ _ hr1; have c6 := cell_of_row _ _ 6 _ _ _ hr1; have c7 := cell_of_row _ _ 7 _ _ _ hr1; have c8 := cell_of_row _ _ 8 _ _ _ hr1; have c9 := cell_of_row _ _ 9 _ _ _ hr1
  have t0 := cell_of_row _ _ 0 _ _ _ hq1'; have t1 := cell_of_row _ _ 1 _ _ _ hq1'; have t2 := cell_of_row _ _ 2 _ _ _ hq1'; have t3 := cell_of_row _ _ 3 _ _ _ hq1'
  clear hr1 hq1'
  go_upto_region 5 with (first
    | (go_at_call 106
       refine (HK.out _ Hb1.out).mono ?_
       rintro e w2 ⟨rfl, hb2⟩
       have hr2 := (hb2.block (w.heap.size + 1 + 1 + 1) hs1).trans Hr1.out
       have hq2' := (hb2.block w.heap.size (by omega)).trans Hq1.out
       have Hz2 := Lib.hid ((hb2.block (w.heap.size + 1 + 1) (by omega)).trans Hz1.out)
       have Hb2 := Lib.hid (Hb1.out.trans (hb2.mono Hb1.out.size))
       have hs2 : w.heap.size + 1 + 1 + 1 < w2.heap.size := Nat.lt_of_lt_of_le hs1 hb2.size
       clear hb2 c0 c1 c2 c3 c4 c5 c6 c7 c8 c9 t0 t1 t2 t3)
    | fail)
  have c0 := cell_of_row _ _ 0 _ _ _ hr2; have c1 := cell_of_row _ _ 1 _ _ _ hr2; have c2 := cell_of_row _ _ 2 _ _ _ hr2; have c3 := cell_of_row _ _ 3 _ _ _ hr2; have c4 := cell_of_row _ _ 4 _ _ _ hr2; have c5 := cell_of_row _ _ 5 _ _ _ hr2; have c6 := cell_of_row _ _ 6 _ _ _ hr2; have c7 := cell_of_row _ _ 7 _ _ _ hr2; have c8 := cell_of_row _ _ 8 _ _ _ hr2; have c9 := cell_of_row _ _ 9 _ _ _ hr2
  have t0 := cell_of_row _ _ 0 _ _ _ hq2'; have t1 := cell_of_row _ _ 1 _ _ _ hq2'; have t2 := cell_of_row _ _ 2 _ _ _ hq2'; have t3 := cell_of_row _ _ 3 _ _ _ hq2'
  clear hr2 hq2'
  go_upto_region 6 with (first
    | (go_at_call 107
       refine (HE.out _ Hb2.out).mono ?_
       rintro e w3 ⟨v1, v2, v3, rfl, hown1, hown2, hown3, hb3⟩
       have Hown1 := Lib.hid (own_rebase (base' := w.heap.size + 1 + 1 + 1) hown1 (by omega))
       have Hown2 := Lib.hid (own_rebase (base' := w.heap.size + 1 + 1 + 1) hown2 (by omega))
       have Hown3 := Lib.hid (own_rebase (base' := w.heap.size + 1 + 1 + 1) hown3 (by omega))
       have Hz3 := Lib.hid ((hb3.block (w.heap.size + 1 + 1) (by omega)).trans Hz2.out)
       have Hb3 := Lib.hid (Hb2.out.trans (hb3.mono Hb2.out.size))
       have hs3 : w.heap.size + 1 + 1 + 1 < w3.heap.size := Nat.lt_of_lt_of_le hs2 hb3.size
       clear hown1 hown2 hown3 hb3 c0 c1 c2 c3 c4 c5 c6 c7 c8 c9 t0 t1 t2 t3)
    | fail)
  obtain ⟨w4, hw4⟩ : ∃ w4 : World, w4 = w3.alloc (.cells #[.slice v1.a Q1.length v1.c, .slice v2.a Q2.length v2.c, .slice v3.a Q3.length v3.c] 166) := ⟨_, rfl⟩
  rw [← hw4]
  have hr4 : w4.heap[w3.heap.size]? = some (.cells #[.slice v1.a Q1.length v1.c, .slice v2.a Q2.length v2.c, .slice v3.a Q3.length v3.c] 166 (0, 0)) := by rw [hw4]; exact heap_alloc_new w3 _
  have Hb34 : Hid (Below w3.heap.size w3 w4) := Lib.hid (by rw [hw4]; exact (by repeat' (first | with_reducible exact Below.refl _ _ | with_reducible refine below_drewN ?_ _ | with_reducible refine Below.drew ?_ | with_reducible refine Below.alloc ?_ ?_ _ | with_reducible refine Below.setCell ?_ ?_ _ | with_reducible refine Below.trans ?_ (Below.mono (by with_reducible assumption) ?_) | (simp; done) | (simp; omega) | omega)))
  have hs4 : w3.heap.size < w4.heap.size := by rw [hw4]; simp
  have Hr4 := Lib.hid hr4
  have Hz4 := Lib.hid ((Hb34.out.block (w.heap.size + 1 + 1) (by omega)).trans Hz3.out)
  have Hb4 := Lib.hid (Hb3.out.trans (Hb34.out.mono Hb3.out.size))
  have HS1 := Lib.hid (SlR.ofR (ownsRow_below Hown1.out Hb34.out))
  have HS2 := Lib.hid (SlR.ofR (ownsRow_below Hown2.out Hb34.out))
  have HS3 := Lib.hid (SlR.ofR (ownsRow_below Hown3.out Hb34.out))
  obtain ⟨T, hT⟩ : ∃ T, w3.heap.size = T := ⟨_, rfl⟩
  rw [hT] at hr4 Hr4 hs4 ⊢
  have hTw : w.heap.size + 1 + 1 + 1 < T := by omega
  have q0 := cell_of_row _ _ 0 _ _ _ hr4
  have q1 := cell_of_row _ _ 1 _ _ _ hr4
  have q2 := cell_of_row _ _ 2 _ _ _ hr4
  clear hw4 hr4 Hown1 Hown2 Hown3 Hb34 hT Hz3 Hb3 hs3
  have HO1 := Lib.hid (fun W (h : Below w4.heap.size w4 W) => ofTm_any v1.a Q1.length v1.c Q1 W (HS1.out.below h) (by omega))
  have HO2 := Lib.hid (fun W (h : Below w4.heap.size w4 W) => ofTm_any v2.a Q2.length v2.c Q2 W (HS2.out.below h) (by omega))
  have HO3 := Lib.hid (fun W (h : Below w4.heap.size w4 W) => ofTm_any v3.a Q3.length v3.c Q3 W (HS3.out.below h) (by omega))
  clear HS1 HS2 HS3
  go_upto_region 9 with fail
  go_region_held3 (fun w' => w'.cell? ⟨T, 0, none⟩ = some (.slice v1.a Q1.length v1.c) ∧ w'.cell? ⟨T, 1, none⟩ = some (.slice v2.a Q2.length v2.c) ∧ w'.cell? ⟨T, 2, none⟩ = some (.slice v3.a Q3.length v3.c))
    (first | ((repeat' apply And.intro) <;> (first | go_keep | exact (sq3_cell (by omega) (by omega)).trans (by assumption)); done) | go_keep)
    (first
      | (go_at_call_of 108 (Value.slice v1.a Q1.length v1.c)
         refine (HO1.out _ ((by repeat' (first | with_reducible exact Below.refl _ _ | with_reducible refine below_drewN ?_ _ | with_reducible refine Below.drew ?_ | with_reducible refine Below.alloc ?_ ?_ _ | with_reducible refine Below.setCell ?_ ?_ _ | with_reducible refine Below.trans ?_ (Below.mono (by with_reducible assumption) ?_) | (simp; done) | (simp; omega) | omega)))).mono ?_
         rintro e w5 ⟨u1, rfl, hown, hb⟩
         have Hb5 : Hid (Below w4.heap.size w4 w5) := Lib.hid (show Below w4.heap.size w4 w5 from (by have hbq := hb; exact (by repeat' (first | with_reducible exact Below.refl _ _ | with_reducible assumption | with_reducible refine below_drewN ?_ _ | with_reducible refine Below.drew ?_ | with_reducible refine Below.alloc ?_ ?_ _ | with_reducible refine Below.setCell ?_ ?_ _ | with_reducible refine Below.trans ?_ (Below.mono (by with_reducible assumption) ?_) | with_reducible refine below_only ?_ (by with_reducible assumption) ?_ ?_ | (simp; done) | (simp; omega) | omega))))
         have hs5 : T < w5.heap.size := Nat.lt_of_lt_of_le hs4 Hb5.out.size
         have Hown5 := Lib.hid (own_rebase (base' := w.heap.size + 1 + 1 + 1) (base := w4.heap.size) hown (by omega))
         have Hr5 := Lib.hid ((Hb5.out.block T hs4).trans Hr4.out)
         have hz5 := (Hb5.out.block (w.heap.size + 1 + 1) (by omega)).trans Hz4.out
         have Hz5 := Lib.hid hz5
         have q10 := cell_of_row _ _ 0 _ _ _ Hr5.out
         have q11 := cell_of_row _ _ 1 _ _ _ Hr5.out
         have q12 := cell_of_row _ _ 2 _ _ _ Hr5.out
         clear hown hb hz5)
      | (go_at_call_of 108 (Value.slice v2.a Q2.length v2.c)
         refine (HO2.out _ (Hb5.out.trans (Below.mono (by repeat' (first | with_reducible exact Below.refl _ _ | with_reducible refine below_drewN ?_ _ | with_reducible refine Below.drew ?_ | with_reducible refine Below.alloc ?_ ?_ _ | with_reducible refine Below.setCell ?_ ?_ _ | with_reducible refine Below.trans ?_ (Below.mono (by with_reducible assumption) ?_) | (simp; done) | (simp; omega) | omega)) Hb5.out.size))).mono ?_
         rintro e w6 ⟨u2, rfl, hown, hb⟩
         have Hb6 : Hid (Below w5.heap.size w5 w6) := Lib.hid (show Below w5.heap.size w5 w6 from (by have hbq := hb; exact (by repeat' (first | with_reducible exact Below.refl _ _ | with_reducible assumption | with_reducible refine below_drewN ?_ _ | with_reducible refine Below.drew ?_ | with_reducible refine Below.alloc ?_ ?_ _ | with_reducible refine Below.setCell ?_ ?_ _ | with_reducible refine Below.trans ?_ (Below.mono (by with_reducible assumption) ?_) | with_reducible refine below_only ?_ (by with_reducible assumption) ?_ ?_ | (simp; done) | (simp; omega) | omega))))
         have hs6 : T < w6.heap.size := Nat.lt_of_lt_of_le hs5 Hb6.out.size
         have Hown6 := Lib.hid (own_rebase (base' := w.heap.size + 1 + 1 + 1) (base := w5.heap.size) hown (by omega))
         have Hr6 := Lib.hid ((Hb6.out.block T hs5).trans Hr5.out)
         have hz6 := (Hb6.out.block (w.heap.size + 1 + 1) (by omega)).trans Hz5.out
         have Hz6 := Lib.hid hz6
         have q20 := cell_of_row _ _ 0 _ _ _ Hr6.out
         have q21 := cell_of_row _ _ 1 _ _ _ Hr6.out
         have q22 := cell_of_row _ _ 2 _ _ _ Hr6.out
         clear hown hb hz6)
      | (go_at_call_of 108 (Value.slice v3.a Q3.length v3.c)
         refine (HO3.out _ (Hb5.out.trans (Below.mono (Hb6.out.trans (Below.mono (by repeat' (first | with_reducible exact Below.refl _ _ | with_reducible refine below_drewN ?_ _ | with_reducible refine Below.drew ?_ | with_reducible refine Below.alloc ?_ ?_ _ | with_reducible refine Below.setCell ?_ ?_ _ | with_reducible refine Below.trans ?_ (Below.mono (by with_reducible assumption) ?_) | (simp; done) | (simp; omega) | omega)) Hb6.out.size)) Hb5.out.size))).mono ?_
         rintro e w7 ⟨u3, rfl, hown, hb⟩
         have Hb7 : Hid (Below w6.heap.size w6 w7) := Lib.hid (show Below w6.heap.size w6 w7 from (by have hbq := hb; exact (by repeat' (first | with_reducible exact Below.refl _ _ | with_reducible assumption | with_reducible refine below_drewN ?_ _ | with_reducible refine Below.drew ?_ | with_reducible refine Below.alloc ?_ ?_ _ | with_reducible refine Below.setCell ?_ ?_ _ | with_reducible refine Below.trans ?_ (Below.mono (by with_reducible assumption) ?_) | with_reducible refine below_only ?_ (by with_reducible assumption) ?_ ?_ | (simp; done) | (simp; omega) | omega))))
         have hs7 : T < w7.heap.size := Nat.lt_of_lt_of_le hs6 Hb7.out.size
         have Hown7 := Lib.hid (own_rebase (base' := w.heap.size + 1 + 1 + 1) (base := w6.heap.size) hown (by omega))
         have Hr7 := Lib.hid ((Hb7.out.block T hs6).trans Hr6.out)
         have hz7 := (Hb7.out.block (w.heap.size + 1 + 1) (by omega)).trans Hz6.out
         have Hz7 := Lib.hid hz7
         have q30 := cell_of_row _ _ 0 _ _ _ Hr7.out
         have q31 := cell_of_row _ _ 1 _ _ _ Hr7.out
         have q32 := cell_of_row _ _ 2 _ _ _ Hr7.out
         have z0 := cell_of_row _ _ 0 _ _ _ hz7
         have z1 := cell_of_row _ _ 1 _ _ _ hz7
         have z2 := cell_of_row _ _ 2 _ _ _ hz7
         have g0 := frozen_of_row _ _ 0 _ _ hz7
         have g1 := frozen_of_row _ _ 1 _ _ hz7
         have g2 := frozen_of_row _ _ 2 _ _ hz7
         clear hown hb hz7)
      | fail)
  all_goals go_wp2
  all_goals have hz9 := sq3 (x := .slice u1.a Q1.length u1.c) (y := .slice u2.a Q2.length u2.c) (z := .slice u3.a Q3.length u3.c) Hz7.out
  all_goals have y0 := cell_of_row _ _ 0 _ _ _ hz9
  all_goals have y1 := cell_of_row _ _ 1 _ _ _ hz9
  all_goals have y2 := cell_of_row _ _ 2 _ _ _ hz9
  all_goals refine bodyPost_ret (v := .tuple #[.agg #[.slice u1.a Q1.length u1.c, .slice u2.a Q2.length u2.c, .slice u3.a Q3.length u3.c], .int .i64 0]) (by simp only [results, Tryz.results35, go_sem, y0, y1, y2]; first | rfl | simp [go_sem, *]) rfl ?_
  all_goals exact ⟨u1, u2, u3, rfl, own_rebase (own_other (ownsRow_below (ownsRow_below Hown5.out Hb6.out) Hb7.out) sq3_only (fun k hk e => by injection e with e; have := own_base Hown5.out k hk; omega)) (by omega), own_rebase (own_other (ownsRow_below Hown6.out Hb7.out) sq3_only (fun k hk e => by injection e with e; have := own_base Hown6.out k hk; omega)) (by omega), own_rebase (own_other Hown7.out sq3_only (fun k hk e => by injection e with e; have := own_base Hown7.out k hk; omega)) (by omega), sq3_below (Hb4.out.trans ((Hb5.out.trans ((Hb6.out.trans (Hb7.out.mono Hb6.out.size)).mono Hb5.out.size)).mono Hb4.out.size)) (by omega)⟩
end Go.Proofs.YtfmkmhhghmdakaaGreatDoor
namespace Go.Proofs.YtfmkmhhghmdakaaGreatDoor
open Go.RowKit Go.Shelf
set_option linter.unusedVariables false
set_option linter.unusedSimpArgs false

theorem joined9 (l : List R4) (h : InS 9 l) (hn : l.length ≤ 243) (A : Option Addr) (n c : Nat) (w : World) (hA : SlR w A n c l) : Calls Tryz.prog 76 #[.slice A n c] w (RegPost w (canonP l, 0)) := by
  have h1 := joined_big A n c _ w hA (by have := hA.len; omega) (Nat.le_trans (cuts_side9 h) (by omega)) h.pos
  have h2 := (canon_reg9 h).len
  unfold limP at h1
  rw [if_neg (by omega)] at h1
  exact h1
set_option maxHeartbeats 4000000 in
set_option maxRecDepth 100000 in
theorem permanentG_any (A : Option Addr) (n c : Nat) (l : RcL) (C : Option Addr) (cc : Nat) (y : Int) (w : World) (hA : SlRc w A n c l) (hl : HyR (rcs l)) (hn : n ≤ 24) (hC : SlC w C 3 cc grassy) (hy : 4 ≤ y ∧ y ≤ 100) :
    Calls Tryz.prog 31 #[.slice A n c, .slice C 3 cc, .int .i64 y] w (RegPost w (canonP (permN (rcs l) y grassB 4), 0)) := by
  have HK := Lib.hid (fun W (h : Below w.heap.size w W) (b : Nat) (hb : W.cell? ⟨b, 0, none⟩ = some (.int .i64 y)) (hbl : b < W.heap.size) => checkG_any A n c l C cc b y W (hA.below h) hl (hC.below h) (by omega) hb hbl)
  have HP := Lib.hid (fun W (h : Below w.heap.size w W) => permanent_any A n c l C cc y W (hA.below h) hl hn (hC.below h) hy)
  have HJ := Lib.hid (fun B m e W h => joined9 (permN (rcs l) y grassB 4) (perm_in hl y grassB 4) (perm_len hl y grassB 4) B m e W h)
  clear hA hl hC hy
  generalize permN (rcs l) y grassB 4 = P at *
  generalize canonP P = R at *
  go_enter Tryz.func31, Tryz.ntmps31
  go_upto_region 2 with fail
  obtain ⟨w1, hw1⟩ : ∃ w1 : World, w1 = (w.alloc (.cells #[.slice none 0 0] 33)).alloc (.cells #[.slice A n c, .slice C 3 cc] 153) := ⟨_, rfl⟩
  rw [← hw1]
  have Hz1 : Hid (w1.heap[w.heap.size]? = some (.cells #[.slice none 0 0] 33 (0, 0))) := Lib.hid (by rw [hw1]; exact (Below.heap_alloc _ _ _ (by simp)).trans (heap_alloc_new w _))
  have hr1 : w1.heap[w.heap.size + 1]? = some (.cells #[.slice A n c, .slice C 3 cc] 153 (0, 0)) := by rw [hw1]; exact heap_alloc2_new w _ _
  have Hr1 := Lib.hid hr1
  have Hb1 : Hid (Below w.heap.size w w1) := Lib.hid (by rw [hw1]; exact (by repeat' (first | with_reducible exact Below.refl _ _ | with_reducible refine below_drewN ?_ _ | with_reducible refine Below.drew ?_ | with_reducible refine Below.alloc ?_ ?_ _ | with_reducible refine Below.setCell ?_ ?_ _ | with_reducible refine Below.trans ?_ (Below.mono (by with_reducible assumption) ?_) | (simp; done) | (simp; omega) | omega)))
  have hs1 : w.heap.size + 1 < w1.heap.size := by rw [hw1]; simp
  have d0 := cell_of_row _ _ 0 _ _ _ hr1
  have d1 := cell_of_row _ _ 1 _ _ _ hr1
  clear hw1 hr1
  have Hx : Hid ((w1.alloc (.cells #[.int .i64 y] 3)).cell? ⟨w1.heap.size, 0, none⟩ = some (.int .i64 y)) := Lib.hid (cell_of_row _ _ 0 _ _ _ (heap_alloc_new w1 _))
  have Hbx : Hid (Below w1.heap.size w1 (w1.alloc (.cells #[.int .i64 y] 3))) := Lib.hid (by repeat' (first | with_reducible exact Below.refl _ _ | with_reducible refine below_drewN ?_ _ | with_reducible refine Below.drew ?_ | with_reducible refine Below.alloc ?_ ?_ _ | with_reducible refine Below.setCell ?_ ?_ _ | with_reducible refine Below.trans ?_ (Below.mono (by with_reducible assumption) ?_) | (simp; done) | (simp; omega) | omega))
  go_wp2_with (first
    | (go_at_call 95
       refine (HK.out _ (Hb1.out.trans (Hbx.out.mono Hb1.out.size)) w1.heap.size Hx.out (by simp)).mono ?_
       rintro e w2 ⟨rfl, hb2⟩
       have hb2 := Hbx.out.trans (hb2.mono Hbx.out.size)
       have hr2 := (hb2.block (w.heap.size + 1) hs1).trans Hr1.out
       have e0 := cell_of_row _ _ 0 _ _ _ hr2
       have e1 := cell_of_row _ _ 1 _ _ _ hr2
       have Hz2 := Lib.hid ((hb2.block w.heap.size (by omega)).trans Hz1.out)
       have hs2 : w.heap.size + 1 < w2.heap.size := Nat.lt_of_lt_of_le hs1 hb2.size
       have Hb2 := Lib.hid (Hb1.out.trans (hb2.mono Hb1.out.size))
       clear hb2 hr2 d0 d1)
    | (go_at_call 97
       refine (HP.out _ Hb2.out).mono ?_
       rintro e w3 ⟨v3, rfl, hown3, hb3⟩
       obtain ⟨B3, c3, rfl, hS3⟩ := SlR.of_own hown3
       have HS3 := Lib.hid hS3
       have Hz3 := Lib.hid ((hb3.block w.heap.size (by omega)).trans Hz2.out)
       have Hb3 := Lib.hid (Hb2.out.trans (hb3.mono (by omega)))
       have hs3 : w.heap.size + 1 < w3.heap.size := Nat.lt_of_lt_of_le hs2 hb3.size
       clear hown3 hb3 hS3 e0 e1)
    | (go_at_call 76
       refine (HJ.out _ _ _ _ HS3.out).mono ?_
       rintro e w4 ⟨v4, rfl, hown4, hb4⟩
       dsimp only at hown4
       obtain ⟨A4, c4, rfl, _, _, _⟩ := own_slice hown4
       have Hown4 := Lib.hid (own_rebase (base' := w.heap.size + 1) hown4 (by omega))
       have hz4 := (hb4.block w.heap.size (by omega)).trans Hz3.out
       have Hb4 := Lib.hid (Hb3.out.trans (hb4.mono (by omega)))
       have z0 := cell_of_row _ _ 0 _ _ _ hz4
       have f0 := frozen_of_row _ _ 0 _ _ hz4
       have csame : (w4.setCell ⟨w.heap.size, 0, none⟩ (.slice A4 R.length c4)).cell? ⟨w.heap.size, 0, none⟩ = some (.slice A4 R.length c4) := by
         rw [cell_of_row _ w.heap.size 0 _ _ _ (heap_setCell_same w4 w.heap.size 0 _ _ _ hz4)]
         simp
       clear hown4 hb4 hz4)
    | fail)
  refine bodyPost_ret (v := .tuple #[.agg #[.slice A4 R.length c4], .int .i64 0]) (by simp [results, Tryz.results31, go_sem, *]) rfl ?_
  refine ⟨_, rfl, ?_, Hb4.out.setCell (Nat.le_refl _) _⟩
  exact own_other (own_rebase Hown4.out (by omega)) (only_setCell (g := w.heap.size) (World.grownBy.refl _ _) (.inl rfl) _) (fun k hk e => by injection e with e; have := own_base Hown4.out k hk; omega)
set_option maxHeartbeats 4000000 in
set_option maxRecDepth 100000 in
theorem ploughedG_any (A : Option Addr) (n c : Nat) (l : RcL) (C : Option Addr) (cc : Nat) (y : Int) (w : World) (hA : SlRc w A n c l) (hl : HyR (rcs l)) (hn : n ≤ 24) (hC : SlC w C 3 cc grassy) (hy : 5 ≤ y ∧ y ≤ 100) :
    Calls Tryz.prog 30 #[.slice A n c, .slice C 3 cc, .int .i64 y] w (RegPost w (canonP (ploughN (rcs l) y grassB), 0)) := by
  have HK := Lib.hid (fun W (h : Below w.heap.size w W) (b : Nat) (hb : W.cell? ⟨b, 0, none⟩ = some (.int .i64 y)) (hbl : b < W.heap.size) => checkG_any A n c l C cc b y W (hA.below h) hl (hC.below h) (by omega) hb hbl)
  have HP := Lib.hid (fun W (h : Below w.heap.size w W) => ploughed_any A n c l C cc y W (hA.below h) hl hn (hC.below h) hy)
  have HJ := Lib.hid (fun B m e W h => joined9 (ploughN (rcs l) y grassB) ((plough_reg hl y grassB).ins) (Nat.le_trans (plough_reg hl y grassB).len (by omega)) B m e W h)
  clear hA hl hC hy
  generalize ploughN (rcs l) y grassB = P at *
  generalize canonP P = R at *
  go_enter Tryz.func30, Tryz.ntmps30
  go_upto_region 2 with fail
  obtain ⟨w1, hw1⟩ : ∃ w1 : World, w1 = (w.alloc (.cells #[.slice none 0 0] 33)).alloc (.cells #[.slice A n c, .slice C 3 cc] 153) := ⟨_, rfl⟩
  rw [← hw1]
  have Hz1 : Hid (w1.heap[w.heap.size]? = some (.cells #[.slice none 0 0] 33 (0, 0))) := Lib.hid (by rw [hw1]; exact (Below.heap_alloc _ _ _ (by simp)).trans (heap_alloc_new w _))
  have hr1 : w1.heap[w.heap.size + 1]? = some (.cells #[.slice A n c, .slice C 3 cc] 153 (0, 0)) := by rw [hw1]; exact heap_alloc2_new w _ _
  have Hr1 := Lib.hid hr1
  have Hb1 : Hid (Below w.heap.size w w1) := Lib.hid (by rw [hw1]; exact (by repeat' (first | with_reducible exact Below.refl _ _ | with_reducible refine below_drewN ?_ _ | with_reducible refine Below.drew ?_ | with_reducible refine Below.alloc ?_ ?_ _ | with_reducible refine Below.setCell ?_ ?_ _ | with_reducible refine Below.trans ?_ (Below.mono (by with_reducible assumption) ?_) | (simp; done) | (simp; omega) | omega)))
  have hs1 : w.heap.size + 1 < w1.heap.size := by rw [hw1]; simp
  have d0 := cell_of_row _ _ 0 _ _ _ hr1
  have d1 := cell_of_row _ _ 1 _ _ _ hr1
  clear hw1 hr1
  have Hx : Hid ((w1.alloc (.cells #[.int .i64 y] 3)).cell? ⟨w1.heap.size, 0, none⟩ = some (.int .i64 y)) := Lib.hid (cell_of_row _ _ 0 _ _ _ (heap_alloc_new w1 _))
  have Hbx : Hid (Below w1.heap.size w1 (w1.alloc (.cells #[.int .i64 y] 3))) := Lib.hid (by repeat' (first | with_reducible exact Below.refl _ _ | with_reducible refine below_drewN ?_ _ | with_reducible refine Below.drew ?_ | with_reducible refine Below.alloc ?_ ?_ _ | with_reducible refine Below.setCell ?_ ?_ _ | with_reducible refine Below.trans ?_ (Below.mono (by with_reducible assumption) ?_) | (simp; done) | (simp; omega) | omega))
  go_wp2_with (first
    | (go_at_call 95
       refine (HK.out _ (Hb1.out.trans (Hbx.out.mono Hb1.out.size)) w1.heap.size Hx.out (by simp)).mono ?_
       rintro e w2 ⟨rfl, hb2⟩
       have hb2 := Hbx.out.trans (hb2.mono Hbx.out.size)
       have hr2 := (hb2.block (w.heap.size + 1) hs1).trans Hr1.out
       have e0 := cell_of_row _ _ 0 _ _ _ hr2
       have e1 := cell_of_row _ _ 1 _ _ _ hr2
       have Hz2 := Lib.hid ((hb2.block w.heap.size (by omega)).trans Hz1.out)
       have hs2 : w.heap.size + 1 < w2.heap.size := Nat.lt_of_lt_of_le hs1 hb2.size
       have Hb2 := Lib.hid (Hb1.out.trans (hb2.mono Hb1.out.size))
       clear hb2 hr2 d0 d1)
    | (go_at_call 96
       refine (HP.out _ Hb2.out).mono ?_
       rintro e w3 ⟨v3, rfl, hown3, hb3⟩
       obtain ⟨B3, c3, rfl, hS3⟩ := SlR.of_own hown3
       have HS3 := Lib.hid hS3
       have Hz3 := Lib.hid ((hb3.block w.heap.size (by omega)).trans Hz2.out)
       have Hb3 := Lib.hid (Hb2.out.trans (hb3.mono (by omega)))
       have hs3 : w.heap.size + 1 < w3.heap.size := Nat.lt_of_lt_of_le hs2 hb3.size
       clear hown3 hb3 hS3 e0 e1)
    | (go_at_call 76
       refine (HJ.out _ _ _ _ HS3.out).mono ?_
       rintro e w4 ⟨v4, rfl, hown4, hb4⟩
       dsimp only at hown4
       obtain ⟨A4, c4, rfl, _, _, _⟩ := own_slice hown4
       have Hown4 := Lib.hid (own_rebase (base' := w.heap.size + 1) hown4 (by omega))
       have hz4 := (hb4.block w.heap.size (by omega)).trans Hz3.out
       have Hb4 := Lib.hid (Hb3.out.trans (hb4.mono (by omega)))
       have z0 := cell_of_row _ _ 0 _ _ _ hz4
       have f0 := frozen_of_row _ _ 0 _ _ hz4
       have csame : (w4.setCell ⟨w.heap.size, 0, none⟩ (.slice A4 R.length c4)).cell? ⟨w.heap.size, 0, none⟩ = some (.slice A4 R.length c4) := by
         rw [cell_of_row _ w.heap.size 0 _ _ _ (heap_setCell_same w4 w.heap.size 0 _ _ _ hz4)]
         simp
       clear hown4 hb4 hz4)
    | fail)
  refine bodyPost_ret (v := .tuple #[.agg #[.slice A4 R.length c4], .int .i64 0]) (by simp [results, Tryz.results30, go_sem, *]) rfl ?_
  refine ⟨_, rfl, ?_, Hb4.out.setCell (Nat.le_refl _) _⟩
  exact own_other (own_rebase Hown4.out (by omega)) (only_setCell (g := w.heap.size) (World.grownBy.refl _ _) (.inl rfl) _) (fun k hk e => by injection e with e; have := own_base Hown4.out k hk; omega)
end Go.Proofs.YtfmkmhhghmdakaaGreatDoor
namespace Go.Proofs.YtfmkmhhghmdakaaGreatDoor
open Go.RowKit Go.Shelf
set_option linter.unusedVariables false
set_option linter.unusedSimpArgs false

theorem grassCalls (A : Option Addr) (n c : Nat) (l : RcL) (C : Option Addr) (cc : Nat) (y : Int) (w : World) (hA : SlRc w A n c l) (hl : HyR (rcs l)) (hn : n ≤ 24) (hC : SlC w C 3 cc grassy) (hy : 5 ≤ y ∧ y ≤ 100) :
    ∃ p be kn no re : List R4,
      (∀ W, Below w.heap.size w W → Calls Tryz.prog 30 #[.slice A n c, .slice C 3 cc, .int .i64 y] W (RegPost W (p, 0))) ∧
      (∀ W, Below w.heap.size w W → Calls Tryz.prog 31 #[.slice A n c, .slice C 3 cc, .int .i64 (y - 1)] W (RegPost W (be, 0))) ∧
      (∀ W, Below w.heap.size w W → Calls Tryz.prog 32 #[.slice A n c, .int .i64 y] W (RegPost W (kn, 0))) ∧
      (∀ W, Below w.heap.size w W → Calls Tryz.prog 33 #[.slice A n c, .slice C 3 cc, .int .i64 y, .int .i64 2] W (RegPost W (no, 0))) ∧
      (∀ W A1 k1 A2 k2, SlR W A1 be.length k1 be → SlR W A2 no.length k2 no → Calls Tryz.prog 34 #[.agg #[.slice A1 be.length k1], .agg #[.slice A2 no.length k2]] W (RegPost W (re, 0))) ∧
      (∀ W A1 k1 A2 k2, SlR W A1 re.length k1 re → SlR W A2 kn.length k2 kn → Calls Tryz.prog 25 #[.agg #[.slice A1 re.length k1], .agg #[.slice A2 kn.length k2]] W (RegPost W (p, 0))) ∧
      (∀ W B d, Below w.heap.size w W → SlR W B p.length d p → Calls Tryz.prog 35 #[beforeV, .agg #[.int .i64 0, .slice B p.length d, .int .i64 1, .int .i64 0], .int .i64 y, .slice C 3 cc, .slice A n c, .slice none 0 0, .int .i64 0] W (EvPost W p [] [])) := by
  have hP := plough_reg hl y grassB
  have i1 := canon_reg9 (perm_in hl (y - 1) grassB 4)
  have i2 := canon_reg9 (rects_in hl y grassB)
  have i3 := canon_reg9 (rects_in hl y fun _ => true)
  have i4 := choose_reg notB rfl 9 i1.ins i2.ins
  refine ⟨ploughN (rcs l) y grassB, canonP (permN (rcs l) (y - 1) grassB 4), canonP (rectsP (rcs l) y fun _ => true), canonP (rectsP (rcs l) y grassB), chooseP notB (canonP (permN (rcs l) (y - 1) grassB 4)) (canonP (rectsP (rcs l) y grassB)), ?_, ?_, ?_, ?_, ?_, ?_, ?_⟩
  · intro W h
    have h1 := ploughedG_any A n c l C cc y W (hA.below h) hl hn (hC.below h) hy
    rw [hP.canon] at h1
    exact h1
  · intro W h
    exact permanentG_any A n c l C cc (y - 1) W (hA.below h) hl hn (hC.below h) (by omega)
  · intro W h
    exact known_any A n c l y W (hA.below h) hl hn (by omega)
  · intro W h
    exact marked_any A n c l C cc y W (hA.below h) hl hn (hC.below h) (by omega)
  · intro W A1 k1 A2 k2 h1 h2
    have h3 := without_any A1 A2 _ k1 _ k2 _ _ W h1 h2
    rw [combine_reg notB rfl 9 81 81 (by omega) (by omega) (by omega) i1 i2] at h3
    exact h3
  · intro W A1 k1 A2 k2 h1 h2
    have h3 := both_any A1 A2 _ k1 _ k2 _ _ W h1 h2
    rw [combine_reg andB rfl 9 (9 * 9) 81 (by omega) (by omega) (by omega) i4 i3, plough_want hl y grassB] at h3
    exact h3
  · intro W B d h hB
    refine evalW_any A n c C cc B (ploughN (rcs l) y grassB).length d y (ploughN (rcs l) y grassB) [] [] W hP.len (by simp) (by simp) (by simp) (by simp) (fun W2 h2 => evalPl_any A n c C cc B _ d y _ [] [] W2 (fun W3 h3 => ?_)) (fun W2 h2 => checkPl_any A n c l C cc B _ d _ y W2 (hA.below (h.trans (h2.mono h.size))) hl (hC.below (h.trans (h2.mono h.size))) (hB.below h2) (hP.valid (by omega) (by omega)) (by omega))
    have hb3 := h.trans ((h2.trans (h3.mono h2.size)).mono h.size)
    have h4 := atomTm_any A n c l C cc B _ d _ y W3 (hA.below hb3) hl hn (hC.below hb3) (hB.below (h2.trans (h3.mono h2.size))) (Nat.le_trans hP.len (by omega)) hP.ins (by omega)
    rw [plough_yes hl y grassB, plough_no hl y grassB, choose_self hP.ins, choose_empty] at h4
    exact h4
end Go.Proofs.YtfmkmhhghmdakaaGreatDoor
namespace Go.Proofs.YtfmkmhhghmdakaaGreatDoor
open Go.RowKit Go.Shelf
set_option linter.unusedVariables false
set_option linter.unusedSimpArgs false

set_option maxHeartbeats 8000000 in
set_option maxRecDepth 100000 in
theorem grassy_any (g : Nat) (r : List Int) (w : World) (ht : TapeAt w g r) :
    Calls Tryz.prog 29 #[.pointer (some ⟨g, 0, none⟩)] w (GrPost w g) := by
  have hlt := ht.lt
  have Ht := Lib.hid ht
  clear ht
  go_enter Tryz.func29, Tryz.ntmps29
  go_upto_region 2 with fail
  obtain ⟨w0, hw0⟩ : ∃ w0 : World, w0 = w.alloc (.cells #[.string ⟨#[103, 114, 97, 115, 115]⟩, .int .i64 1, .int .i64 2, .string ⟨#[109, 97, 105, 122, 101]⟩, .int .i64 2, .int .i64 0, .string ⟨#[114, 121, 101]⟩, .int .i64 3, .int .i64 0] 91) := ⟨_, rfl⟩
  rw [← hw0]
  have Hc0 : Hid (GrBlk w0 w.heap.size) := Lib.hid (by rw [hw0]; exact heap_alloc_new w _)
  have Ht0 : Hid (TapeAt w0 g r) := Lib.hid (by rw [hw0]; exact Ht.out.alloc _)
  have Hg0 : Hid (w.grownBy w0 (some g)) := Lib.hid (by rw [hw0]; exact only_alloc (World.grownBy.refl _ _) _)
  have hs0 : w.heap.size < w0.heap.size := by rw [hw0]; simp
  clear hw0
  go_upto_region 4 with fail
  go_loopw [5, 6, 7] (fun hv yv _ wr => ∃ (l : RcL) (y : Nat) (r1 : List Int), yv = .int .i64 (y : Int) ∧ y ≤ 8 ∧ l.length ≤ 3 * y ∧ HyAt wr w.heap.size hv l ∧ TapeAt wr g r1 ∧ w.grownBy wr (some g) ∧ GrBlk wr w.heap.size ∧ w.heap.size < wr.heap.size) (fun _ yv _ _ => 8 - (intOf yv).toNat)
  case atStart => exact ⟨[], 0, r, rfl, by omega, by simp, ⟨World.ownsRow_nil _ _ _ _, fun x hx => (by cases hx), HyR.nil⟩, Ht0.out, Hg0.out, Hc0.out, hs0⟩
  case round =>
    obtain ⟨l, y, r1, rfl, hy8, hly, hh, htr, hgr, hcr, hsr⟩ := hrel
    obtain ⟨wo, rfl⟩ : ∃ wo : World, wo = wr := ⟨_, rfl⟩
    have Hh := Lib.hid hh
    have Htr := Lib.hid htr
    have Hgr := Lib.hid hgr
    have Hcr := Lib.hid hcr
    clear hh htr hgr hcr
    obtain ⟨A, c, rfl, _, _, _⟩ := own_slice Hh.out.o
    by_cases hyn : y < 8
    · have hyn' : (y : Int) < 8 := by omega
      obtain ⟨n, hn⟩ : ∃ n, l.length = n := ⟨_, rfl⟩
      have Hn := Lib.hid hn
      have hn30 : n ≤ 3 * y := by omega
      rw [hn]
      clear hn hly
      have hsq := own_lit wo 68 4 1 #[.int .i64 0, .int .i64 0, .int .i64 8, .int .i64 8] (rCells [⟨0, 0, 8, 8⟩]) rfl (by rfl) (by unfold maxLen; omega)
      have Hsq := Lib.hid (own_rebase (base' := w.heap.size) hsq (by omega))
      clear hsq
      obtain ⟨wa, hwa⟩ : ∃ wa : World, wa = wo.alloc (.cells #[.int .i64 0, .int .i64 0, .int .i64 8, .int .i64 8] 68) := ⟨_, rfl⟩
      rw [← hwa] at Hsq
      have Hba : Hid (Below wo.heap.size wo wa) := Lib.hid (by rw [hwa]; exact (by repeat' (first | with_reducible exact Below.refl _ _ | with_reducible refine below_drewN ?_ _ | with_reducible refine Below.drew ?_ | with_reducible refine Below.alloc ?_ ?_ _ | with_reducible refine Below.setCell ?_ ?_ _ | with_reducible refine Below.trans ?_ (Below.mono (by with_reducible assumption) ?_) | (simp; done) | (simp; omega) | omega)))
      have hsa : w.heap.size < wa.heap.size := Nat.lt_of_lt_of_le hsr Hba.out.size
      have Hadd := Lib.hid (add15_any A n c l y 0 ⟨some ⟨wo.heap.size, 0, none⟩, 1⟩ [⟨0, 0, 8, 8⟩] 6 w.heap.size wa (by rw [← Hn.out]; exact (Hh.out.below Hba.out).sl) (Hh.out.below Hba.out).fs Hh.out.hy (by omega) (by omega) (by omega) (by omega) reg8 Hsq.out (by omega))
      rw [hwa] at Hadd
      go_upto_region 7 with (first
        | (go_at_call 94
           refine Hadd.out.mono ?_
           rw [← hwa]
           rintro e w1 hp
           obtain ⟨m, v1, rfl, hh1, hm1, hb1⟩ := hp.hy (B := 0) Hh.out.hy (by have := Hn.out; omega) (by omega) (by omega) (k := 6) (by omega) reg8 (by omega)
           have Hh1 := Lib.hid hh1
           have hm1' : m.length ≤ 3 * y + 1 := by have := Hn.out; omega
           have Ht1 := Lib.hid ((Htr.out.below Hba.out Htr.out.lt).below hb1 (Htr.out.below Hba.out Htr.out.lt).lt)
           have Hg1 := Lib.hid (only_below (only_below Hgr.out Hba.out (by omega)) hb1 (by omega))
           have Hc1 : Hid (GrBlk w1 w.heap.size) := Lib.hid ((hb1.block _ hsa).trans ((Hba.out.block _ hsr).trans Hcr.out))
           have hs1 : w.heap.size < w1.heap.size := Nat.lt_of_lt_of_le hsa hb1.size
           clear hh1 hp hm1 hb1)
        | fail)
      clear Hadd Hsq hwa Hba
      go_upto_region 8 with (first
        | (go_at_call 44
           refine (next_any g r1 3 _ Ht1.out (by omega)).mono ?_
           rintro e w2 ⟨rfl, ht2, hg2⟩
           have hkb := nx_bd r1 3 (by omega)
           generalize nx r1 3 = k0 at *
           obtain ⟨k1, rfl⟩ : ∃ m : Nat, k0 = (m : Int) := ⟨k0.toNat, by omega⟩
           have hk1 : k1 ≤ 2 := by omega
           have Ht2 := Lib.hid ht2
           have Hh2 := Lib.hid (Hh1.out.only hg2 hlt)
           have Hc2 : Hid (GrBlk w2 w.heap.size) := Lib.hid ((hg2.block _ hs1 (by intro e; injection e; omega)).trans Hc1.out)
           have hs2 : w.heap.size < w2.heap.size := Nat.lt_of_lt_of_le hs1 hg2.size
           have Hg2 := Lib.hid (only_trans Hg1.out hg2)
           clear ht2 hg2 hkb)
        | fail)
      clear Hh1 Ht1 Hg1 Hc1
      go_loopw [5, 7] (fun hv nv wr => ∃ (l : RcL) (k : Nat) (r1 : List Int), nv = .int .i64 (k : Int) ∧ l.length + k ≤ 3 * y + 3 ∧ HyAt wr w.heap.size hv l ∧ TapeAt wr g r1 ∧ w.grownBy wr (some g) ∧ GrBlk wr w.heap.size ∧ w.heap.size < wr.heap.size) (fun _ nv _ => (intOf nv).toNat)
      case atStart => exact ⟨m, k1, _, rfl, by omega, Hh2.out, Ht2.out, Hg2.out, Hc2.out, hs2⟩
      case round =>
        clear Hh2 Ht2 Hg2 Hc2 Hh Htr Hgr Hcr
        obtain ⟨l, k, r1, rfl, hlk, hh, htr, hgr, hcr, hsr⟩ := hrel
        obtain ⟨wi, rfl⟩ : ∃ wi : World, wi = wr := ⟨_, rfl⟩
        have Hh := Lib.hid hh
        have Htr := Lib.hid htr
        have Hgr := Lib.hid hgr
        have Hcr := Lib.hid hcr
        clear hh htr hgr hcr
        rcases k with _ | k
        · go_wp2
          go_roundw
          case rel => exact ⟨l, y + 1, r1, by go_num, by omega, by omega, Hh.out, Htr.out, Hgr.out, Hcr.out, hsr⟩
          case measure => simp [intOf]; omega
        · have hk' : (0 : Int) < ((k + 1 : Nat) : Int) := by omega
          have hkw : IntKind.i64.wrap (((k + 1 : Nat) : Int) - 1) = (k : Int) := by rw [show (((k + 1 : Nat) : Int) - 1) = (k : Int) from by omega]; exact IntWalk.i64_in _ (by omega)
          obtain ⟨A, c, rfl, _, _, _⟩ := own_slice Hh.out.o
          obtain ⟨n, hn⟩ : ∃ n, l.length = n := ⟨_, rfl⟩
          have Hn := Lib.hid hn
          rw [hn]
          rw [hn] at hlk
          clear hn
          go_upto_region 9 with (first
            | (go_at_call 94
               refine (add15_any A n c l y q ⟨A3, c3⟩ a 1 w.heap.size w3 (by rw [← Hn.out]; exact Hh3.out.sl) Hh3.out.fs Hh3.out.hy (by omega) (by omega) (by omega) (by omega) Hreg.out Hown3.out (by omega)).mono ?_
               rintro e w4 hp
               obtain ⟨m, v4, rfl, hh4, hm4, hb4⟩ := hp.hy (B := 0) Hh3.out.hy (by have := Hn.out; omega) (by omega) (by omega) (k := 1) (by omega) Hreg.out (by omega)
               have Hh4 := Lib.hid hh4
               have hm4' : m.length + k ≤ 3 * y + 3 := by have := Hn.out; omega
               have Ht4 := Lib.hid (Ht3.out.below hb4 Ht3.out.lt)
               have Hg4 := Lib.hid (only_below Hg3.out hb4 (by omega))
               have Hc4 : Hid (GrBlk w4 w.heap.size) := Lib.hid ((hb4.block _ hs3).trans Hc3.out)
               have hs4 : w.heap.size < w4.heap.size := Nat.lt_of_lt_of_le hs3 hb4.size
               clear hh4 hp hm4 hb4)
            | (go_at_call 21
               refine (region_any g _ 9 1 _ Ht2.out (by omega) (by omega)).mono ?_
               rintro e w3 ⟨v3, rfl, hown3, ht3, hg3⟩
               have Hreg : Hid (Reg 9 1 (mkReg r1.tail 9 1).1) := Lib.hid (mkReg_reg r1.tail 9 1 (by omega) (by omega) (by omega) (by omega))
               generalize (mkReg r1.tail 9 1).1 = a at *
               generalize (mkReg r1.tail 9 1).2 = r3 at *
               obtain ⟨A3, c3, rfl, _, _, _⟩ := own_slice hown3
               have Hown3 := Lib.hid (own_rebase (base' := w.heap.size) hown3 (by omega))
               have Ht3 := Lib.hid ht3
               have Hh3 := Lib.hid (Hh2.out.only hg3 hlt)
               have Hc3 : Hid (GrBlk w3 w.heap.size) := Lib.hid ((hg3.block _ hs2 (by intro e; injection e; omega)).trans Hc2.out)
               have hs3 : w.heap.size < w3.heap.size := Nat.lt_of_lt_of_le hs2 hg3.size
               have Hg3 := Lib.hid (only_trans Hg2.out hg3)
               clear hown3 ht3 hg3)
            | (go_at_call 44
               refine (next_any g r1 3 _ Htr.out (by omega)).mono ?_
               rintro e w2 ⟨rfl, ht2, hg2⟩
               have hq := nx_bd r1 3 (by omega)
               generalize nx r1 3 = q at *
               have Ht2 := Lib.hid ht2
               have Hh2 := Lib.hid (Hh.out.only hg2 hlt)
               have Hc2 : Hid (GrBlk w2 w.heap.size) := Lib.hid ((hg2.block _ hsr (by intro e; injection e; omega)).trans Hcr.out)
               have hs2 : w.heap.size < w2.heap.size := Nat.lt_of_lt_of_le hsr hg2.size
               have Hg2 := Lib.hid (only_trans Hgr.out hg2)
               clear ht2 hg2)
            | fail)
          go_wp2
          go_roundw
          case rel => exact ⟨m, k, _, rfl, hm4', Hh4.out, Ht4.out, Hg4.out, Hc4.out, hs4⟩
          case measure => simp [intOf]
    · have hyn' : ¬ (y : Int) < 8 := by omega
      go_wp2
      go_ret2
      exact ⟨l, _, r1, w.heap.size, rfl, Hcr.out.sl hsr, Hh.out, by omega, Htr.out, Hgr.out⟩
end Go.Proofs.YtfmkmhhghmdakaaGreatDoor
