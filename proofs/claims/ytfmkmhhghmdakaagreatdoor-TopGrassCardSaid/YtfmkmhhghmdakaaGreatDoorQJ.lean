/- Contracts: DeleteFunc of features (slices), On (feature): the features that are there on a day. -/
import Derived.Test.YtfmkmhhghmdakaaGreatDoorSh07
import Derived.Laws.CopyRow
import Derived.Laws.AppendOwn
import Derived.Laws.Tables
import Derived.Deep.Upon
import Derived.Test.YtfmkmhhghmdakaaGreatDoorQB
import Derived.Test.YtfmkmhhghmdakaaGreatDoorQC
import Derived.Test.YtfmkmhhghmdakaaGreatDoorQH
import Derived.Test.YtfmkmhhghmdakaaGreatDoorQI
namespace Go.Proofs.YtfmkmhhghmdakaaGreatDoor
open Go.RowKit
set_option linter.unusedVariables false
set_option linter.unusedSimpArgs false

structure Rc where
  yr : Int
  cr : Int
  rg : List R4
abbrev RcL := List (Rc × LV)
def rcC (x : Rc × LV) : List Value := [.int .i64 x.1.yr, .int .i64 x.1.cr, .slice x.2.a x.1.rg.length x.2.c]
def rcCells (l : RcL) : List Value := l.flatMap rcC
theorem rcCells_snoc (l : RcL) (x : Rc × LV) : rcCells (l ++ [x]) = rcCells l ++ [.int .i64 x.1.yr, .int .i64 x.1.cr, .slice x.2.a x.1.rg.length x.2.c] := by simp [rcCells, rcC]
theorem rcCells_app (l m : RcL) : rcCells (l ++ m) = rcCells l ++ rcCells m := by simp [rcCells]
theorem rcCells_len (l : RcL) : (rcCells l).length = l.length * 3 := by
  induction l with
  | nil => rfl
  | cons o r ih => simp [rcCells, rcC] at *; omega
theorem rcCells_at (l : RcL) (i : Nat) (h : i < l.length) : (rcCells l)[i * 3]? = some (.int .i64 l[i].1.yr) ∧ (rcCells l)[i * 3 + 1]? = some (.int .i64 l[i].1.cr) ∧ (rcCells l)[i * 3 + 2]? = some (.slice l[i].2.a l[i].1.rg.length l[i].2.c) := by
  induction l generalizing i with
  | nil => simp at h
  | cons o r ih =>
    have hc : rcCells (o :: r) = rcC o ++ rcCells r := by simp [rcCells]
    have hl : (rcC o).length = 3 := rfl
    rw [hc]
    rcases i with _ | i
    · simp [rcC]
    · have := ih i (by simpa using h)
      refine ⟨?_, ?_, ?_⟩ <;> (rw [List.getElem?_append_right (by rw [hl]; omega), hl])
      · rw [show (i + 1) * 3 - 3 = i * 3 from by omega]; exact this.1
      · rw [show (i + 1) * 3 + 1 - 3 = i * 3 + 1 from by omega]; exact this.2.1
      · rw [show (i + 1) * 3 + 2 - 3 = i * 3 + 2 from by omega]; exact this.2.2
theorem rcCells_one (l : RcL) : ∀ u ∈ rcCells l, u.oneCell' = true := by
  intro u hu
  simp only [rcCells, List.mem_flatMap] at hu
  obtain ⟨o, _, hu⟩ := hu
  simp [rcC] at hu
  rcases hu with rfl | rfl | rfl <;> rfl
structure SlRc (w : World) (A : Option Addr) (n c : Nat) (l : RcL) : Prop where
  len : l.length = n
  cap : n ≤ c
  top : c ≤ maxLen
  lies : Lies w A n (rcCells l)
  fits : ∀ x ∈ l, SlR w x.2.a x.1.rg.length x.2.c x.1.rg
theorem SlRc.below {w w' : World} {A : Option Addr} {n c : Nat} {l : RcL} (h : SlRc w A n c l) (hb : Below w.heap.size w w') : SlRc w' A n c l := ⟨h.len, h.cap, h.top, h.lies.below hb, fun x hx => (h.fits x hx).below hb⟩
theorem SlRc.at {w : World} {A : Option Addr} {n c : Nat} {l : RcL} (h : SlRc w A n c l) (i : Nat) (hi : i < l.length) :
    ∃ b off, A = some ⟨b, off, none⟩ ∧ b < w.heap.size ∧ w.cell? ⟨b, off + i * 3, none⟩ = some (.int .i64 l[i].1.yr) ∧ w.cell? ⟨b, off + i * 3 + 1, none⟩ = some (.int .i64 l[i].1.cr) ∧ w.cell? ⟨b, off + i * 3 + 2, none⟩ = some (.slice l[i].2.a l[i].1.rg.length l[i].2.c) ∧ SlR w l[i].2.a l[i].1.rg.length l[i].2.c l[i].1.rg := by
  obtain ⟨b, off, e, hb, hc⟩ := h.lies.resolve_left (by have := h.len; omega)
  obtain ⟨h0, h1, h2⟩ := rcCells_at l i hi
  exact ⟨b, off, e, hb, hc _ _ h0, hc _ _ h1, hc _ _ h2, h.fits _ (List.getElem_mem hi)⟩
def rcs (l : RcL) : List Rc := l.map (·.1)
theorem rcs_len (l : RcL) : (rcs l).length = l.length := by simp [rcs]
theorem Tryz.infoRc : (Tryz.prog.info? 172).map (fun i => (i.zero, i.size, i.bytes)) = some (some (.agg #[.int .i64 0, .int .i64 0, .slice none 0 0]), 3, 40) := by kernel_rfl
section
variable {w w' : World} {base : Nat} {v : Value} {l : RcL}
end
end Go.Proofs.YtfmkmhhghmdakaaGreatDoor
namespace Go.Proofs.YtfmkmhhghmdakaaGreatDoor
open Go.RowKit Go.Shelf
set_option linter.unusedVariables false
set_option linter.unusedSimpArgs false

/-- A name of letters. -/
def lettersB (s : ByteArray) : Bool := decide (1 ≤ s.size) && decide (s.size ≤ 12) && s.data.toList.all fun b => decide (97 ≤ b.toNat) && decide (b.toNat ≤ 122)
theorem letter_at {s : ByteArray} (hs : lettersB s = true) (k : Nat) (h : k < s.size) : 97 ≤ s[k].toNat ∧ s[k].toNat ≤ 122 := by
  unfold lettersB at hs
  rw [Bool.and_eq_true] at hs
  have hm : s[k] ∈ s.data.toList := by
    have e : s[k] = s.data[k]'h := rfl
    rw [e]
    exact Array.mem_toList_iff.2 (Array.getElem_mem _)
  have := List.all_eq_true.1 hs.2 _ hm
  simpa using this
set_option maxHeartbeats 2000000 in
theorem name_any (s : ByteArray) (w : World) (hs : lettersB s = true) : Calls Tryz.prog 214 #[.string s] w fun e w' => e = .returned (.bool true) ∧ w = w' := by
  obtain ⟨n, hn⟩ : ∃ n, s.size = n := ⟨_, rfl⟩
  have Hn := Lib.hid hn
  have hn12 : 1 ≤ n ∧ n ≤ 12 := by
    unfold lettersB at hs
    simp only [Bool.and_eq_true, decide_eq_true_eq] at hs
    omega
  go_enter Tryz.func214, Tryz.ntmps214
  go_wp2_with fail
  go_loopw [3, 4, 5, 8] (fun _ _ _ iv wr => ∃ k : Nat, k ≤ n ∧ iv = .int .i64 (k : Int) ∧ wr = w) (fun _ _ _ iv _ => n - (intOf iv).toNat)
  case atStart => exact ⟨0, Nat.zero_le _, rfl, rfl⟩
  case round =>
    obtain ⟨k, hk, rfl, rfl⟩ := hrel
    by_cases hkn : k < n
    · have hkn' : (k : Int) < (n : Int) := by omega
      have hks : k < s.size := by omega
      obtain ⟨h1, h2⟩ := letter_at hs k hks
      have a1 : (97 : Int) ≤ (s[k].toNat : Int) := by omega
      have a2 : (s[k].toNat : Int) ≤ 122 := by omega
      have a3 : (48 : Int) ≤ (s[k].toNat : Int) := by omega
      have a4 : ¬ (s[k].toNat : Int) ≤ 57 := by omega
      go_wp2
      go_roundw
      case rel => exact ⟨k + 1, by omega, by go_num, trivial⟩
      case measure => simp [intOf]; omega
    · have hkn' : ¬ (k : Int) < (n : Int) := by omega
      have b1 : (1 : Int) ≤ (n : Int) := by omega
      have b2 : (n : Int) ≤ 12 := by omega
      go_wp2
      go_ret
      exact ⟨rfl, rfl⟩

/-- A crop. -/
structure Cp where
  nm : ByteArray
  fam : Int
  mks : Int
def kCells (l : List Cp) : List Value := l.flatMap fun x => [.string x.nm, .int .i64 x.fam, .int .i64 x.mks]
theorem kCells_at (l : List Cp) (i : Nat) (h : i < l.length) : (kCells l)[i * 3]? = some (.string l[i].nm) ∧ (kCells l)[i * 3 + 1]? = some (.int .i64 l[i].fam) ∧ (kCells l)[i * 3 + 2]? = some (.int .i64 l[i].mks) := by
  induction l generalizing i with
  | nil => simp at h
  | cons o r ih =>
    have hc : kCells (o :: r) = [.string o.nm, .int .i64 o.fam, .int .i64 o.mks] ++ kCells r := by simp [kCells]
    rw [hc]
    rcases i with _ | i
    · simp
    · have := ih i (by simpa using h)
      refine ⟨?_, ?_, ?_⟩ <;> rw [List.getElem?_append_right (by simp; omega)]
      · rw [show (i + 1) * 3 - ([Value.string o.nm, .int .i64 o.fam, .int .i64 o.mks] : List Value).length = i * 3 from by simp; omega]; exact this.1
      · rw [show (i + 1) * 3 + 1 - ([Value.string o.nm, .int .i64 o.fam, .int .i64 o.mks] : List Value).length = i * 3 + 1 from by simp; omega]; exact this.2.1
      · rw [show (i + 1) * 3 + 2 - ([Value.string o.nm, .int .i64 o.fam, .int .i64 o.mks] : List Value).length = i * 3 + 2 from by simp; omega]; exact this.2.2
/-- A slice of crops. -/
structure SlC (w : World) (A : Option Addr) (n c : Nat) (l : List Cp) : Prop where
  len : l.length = n
  cap : n ≤ c
  top : c ≤ maxLen
  lies : Lies w A n (kCells l)
theorem SlC.below {w w' : World} {A : Option Addr} {n c : Nat} {l : List Cp} (h : SlC w A n c l) (hb : Below w.heap.size w w') : SlC w' A n c l := ⟨h.len, h.cap, h.top, h.lies.below hb⟩
theorem SlC.at {w : World} {A : Option Addr} {n c : Nat} {l : List Cp} (h : SlC w A n c l) (i : Nat) (hi : i < l.length) :
    ∃ b off, A = some ⟨b, off, none⟩ ∧ b < w.heap.size ∧ w.cell? ⟨b, off + i * 3, none⟩ = some (.string l[i].nm) ∧ w.cell? ⟨b, off + i * 3 + 1, none⟩ = some (.int .i64 l[i].fam) ∧ w.cell? ⟨b, off + i * 3 + 2, none⟩ = some (.int .i64 l[i].mks) := by
  obtain ⟨b, off, e, hb, hc⟩ := h.lies.resolve_left (by have := h.len; omega)
  obtain ⟨h0, h1, h2⟩ := kCells_at l i hi
  exact ⟨b, off, e, hb, hc _ _ h0, hc _ _ h1, hc _ _ h2⟩
/-- Whether a text comes not behind another one. -/
def leqS (a b : ByteArray) : Bool := Go.Op.bytesLess a.toList b.toList || a.toList == b.toList
/-- A catalogue that is right. -/
def cropsB (l : List Cp) : Prop := l.length ≤ 40 ∧ (∀ x ∈ l, lettersB x.nm = true ∧ (0 ≤ x.fam ∧ x.fam ≤ 40) ∧ 0 ≤ x.mks ∧ x.mks ≤ 31) ∧ ∀ i (h : i + 1 < l.length), leqS l[i + 1].nm l[i].nm = false

set_option maxHeartbeats 4000000 in
set_option maxRecDepth 100000 in
theorem cropCheck_any (A : Option Addr) (n c : Nat) (l : List Cp) (w : World) (hA : SlC w A n c l) (hok : cropsB l) :
    Calls Tryz.prog 124 #[.slice A n c] w fun e w' => e = .returned (.int .i64 0) ∧ Below w.heap.size w w' := by
  have HA := Lib.hid hA
  have Hn := Lib.hid hA.len
  have Hok := Lib.hid hok
  have hn40 : n ≤ 40 := by have := hok.1; have := hA.len; omega
  clear hA hok
  have hbig : ¬ (40 : Int) < (n : Int) := by omega
  go_enter Tryz.func124, Tryz.ntmps124
  go_wp2_with fail
  go_loopw [3, 10] (fun _ iv wr => ∃ k : Nat, k ≤ n ∧ iv = .int .i64 (k : Int) ∧ Below w.heap.size w wr) (fun _ iv _ => n - (intOf iv).toNat)
  case atStart => exact ⟨0, Nat.zero_le _, rfl, Below.refl _ _⟩
  case round =>
    obtain ⟨k, hk, rfl, hbw⟩ := hrel
    have Hbw := Lib.hid hbw
    have hsw := hbw.size
    clear hbw
    by_cases hkn : k < n
    · have hkn' : (k : Int) < (n : Int) := by omega
      have hkl : k < l.length := by have := Hn.out; omega
      obtain ⟨b, off, rfl, hb, c0, c1, c2⟩ := (HA.out.below Hbw.out).at k hkl
      obtain ⟨hnm, hfam, hmk⟩ := Hok.out.2.1 l[k] (List.getElem_mem hkl)
      have Hord : Hid (∀ j (hj : j < l.length), k = j + 1 → leqS l[k].nm l[j].nm = false) := Lib.hid (fun j hj e => by subst e; exact Hok.out.2.2 j hkl)
      generalize l[k] = y at *
      obtain ⟨nm, fam, mk⟩ := y
      dsimp only at *
      have Hnm := Lib.hid (fun W => name_any nm W hnm)
      have f1 : ¬ fam < 0 := by omega
      have f2 : ¬ 40 < fam := by omega
      have f3 : ¬ mk < 0 := by omega
      have f4 : ¬ 31 < mk := by omega
      have hrow := heap_alloc_new wr (.cells #[.string nm, .int .i64 fam, .int .i64 mk] 91)
      have Hba : Hid (Below wr.heap.size wr (wr.alloc (.cells #[.string nm, .int .i64 fam, .int .i64 mk] 91))) := Lib.hid (by repeat' (first | with_reducible exact Below.refl _ _ | with_reducible refine below_drewN ?_ _ | with_reducible refine Below.drew ?_ | with_reducible refine Below.alloc ?_ ?_ _ | with_reducible refine Below.setCell ?_ ?_ _ | with_reducible refine Below.trans ?_ (Below.mono (by with_reducible assumption) ?_) | (simp; done) | (simp; omega) | omega))
      have hla : wr.heap.size < (wr.alloc (.cells #[.string nm, .int .i64 fam, .int .i64 mk] 91)).heap.size := by simp
      go_upto_block 2 with fail
      obtain ⟨T, hT⟩ : ∃ T, wr.heap.size = T := ⟨_, rfl⟩
      rw [hT] at hrow hla ⊢
      generalize wr.alloc (.cells #[.string nm, .int .i64 fam, .int .i64 mk] 91) = wa at *
      have Hbwa : Hid (Below w.heap.size w wa) := Lib.hid (Hbw.out.trans (Hba.out.mono hsw))
      have a0 := cell_of_row wa T 0 _ _ _ hrow
      have a1 := cell_of_row wa T 1 _ _ _ hrow
      have a2 := cell_of_row wa T 2 _ _ _ hrow
      clear c0 c1 c2 hrow hT
      by_cases hk0 : 0 < k
      · have hk0' : (0 : Int) < (k : Int) := by omega
        have hk0d : decide ((0 : Int) < (k : Int)) = true := decide_eq_true hk0'
        obtain ⟨j, hj⟩ : ∃ j, k = j + 1 := ⟨k - 1, by omega⟩
        have hjl : j < l.length := by omega
        obtain ⟨b', off', e', hb', d0, -, -⟩ := (HA.out.below Hbwa.out).at j hjl
        injection e' with e'
        injection e' with e1 e2
        subst e1 e2
        have hlq := Hord.out j hjl hj
        generalize l[j].nm = pn at *
        have hwk : IntKind.i64.wrap ((k : Int) - 1) = (j : Int) := by rw [show (k : Int) - 1 = (j : Int) by omega]; exact IntWalk.i64_in _ (by omega)
        have hjn : (j : Int) < (n : Int) := by omega
        have Hj := Lib.hid hj
        clear hj
        unfold leqS at hlq
        go_wp2_with (first | (go_at_call 214; refine (Hnm.out _).mono ?_; rintro e w' ⟨rfl, rfl⟩) | fail)
        go_quiet (fail)
        go_wp2
        go_roundw
        case rel => exact ⟨k + 1, by omega, by go_num, below_drewN Hbwa.out _⟩
        case measure => simp [intOf]; omega
      · obtain rfl : k = 0 := by omega
        have hk0d : decide ((0 : Int) < ((0 : Nat) : Int)) = false := rfl
        go_wp2_with (first | (go_at_call 214; refine (Hnm.out _).mono ?_; rintro e w' ⟨rfl, rfl⟩) | fail)
        go_quiet (fail)
        go_wp2
        go_roundw
        case rel => exact ⟨1, by omega, by go_num, below_drewN Hbwa.out _⟩
        case measure => simp [intOf]; omega
    · have hkn' : ¬ (k : Int) < (n : Int) := by omega
      go_wp2
      go_ret
      exact ⟨rfl, Hbw.out⟩
end Go.Proofs.YtfmkmhhghmdakaaGreatDoor
namespace Go.Proofs.YtfmkmhhghmdakaaGreatDoor
open Go.RowKit Go.Shelf
set_option linter.unusedVariables false
set_option linter.unusedSimpArgs false

/-- The term. -/
abbrev beforeV : Value := .agg #[.int .i64 7, .int .i64 1, .int .i64 2, .slice none 0 0]
theorem ones64_any (w : World) : Calls Tryz.prog 367 #[.int .u64 2] w fun e w' => e = .returned (.int .i64 1) ∧ w' = w := by
  go_enter Tryz.func367, Tryz.ntmps367
  go_wp2
  refine bodyPost_ret (v := .int .i64 1) (by simp [results, Tryz.results367, go_sem, *]; first | done | kernel_rfl) rfl ?_
  exact ⟨rfl, rfl⟩
theorem ones_any (w : World) : Calls Tryz.prog 356 #[.int .u64 2] w fun e w' => e = .returned (.int .i64 1) ∧ w' = w := by
  go_enter Tryz.func356, Tryz.ntmps356
  go_wp2_with (first
    | (go_at_call 367; refine (ones64_any _).mono ?_; rintro e w1 ⟨rfl, rfl⟩)
    | fail)
  go_ret
  exact ⟨rfl, rfl⟩
theorem singleTm_any (w : World) : Calls Tryz.prog 327 #[.int .i64 2] w fun e w' => e = .returned (.bool true) ∧ w' = w := by
  go_enter Tryz.func327, Tryz.ntmps327
  go_wp2_with (first
    | (go_at_call 356; refine (ones_any _).mono ?_; rintro e w1 ⟨rfl, rfl⟩)
    | fail)
  go_ret
  exact ⟨rfl, rfl⟩
theorem limitsTm_any (w : World) : Calls Tryz.prog 325 #[.int .i64 7] w fun e w' => e = .returned (.tuple #[.int .i64 1, .int .i64 10, .bool true]) ∧ w' = w := by
  go_enter Tryz.func325, Tryz.ntmps325
  go_wp2
  refine bodyPost_ret (v := .tuple #[.int .i64 1, .int .i64 10, .bool true]) (by simp [results, Tryz.results325, go_sem, *]) rfl ?_
  exact ⟨rfl, rfl⟩
theorem kidsTm_any (w : World) : Calls Tryz.prog 326 #[.int .i64 7] w fun e w' => e = .returned (.tuple #[.int .i64 0, .int .i64 0]) ∧ w' = w := by
  go_enter Tryz.func326, Tryz.ntmps326
  go_wp2
  refine bodyPost_ret (v := .tuple #[.int .i64 0, .int .i64 0]) (by simp [results, Tryz.results326, go_sem, *]) rfl ?_
  exact ⟨rfl, rfl⟩
theorem indexTm_nil (f : Nat) (lb : Array Value) (w : World) :
    Calls Tryz.prog 357 #[.slice none 0 0, .func (.func f) #[] lb] w fun e w' => e = .returned (.int .i64 (-1)) ∧ w' = w := by
  go_enter Tryz.func357, Tryz.ntmps357
  go_wp2
  go_loop [8] (fun i => i = .int .i64 0) (fun _ => 0)
  case atStart => rfl
  case round =>
    subst hrel
    go_wp2
    go_ret
    exact ⟨rfl, rfl⟩
theorem containsTm_nil (f : Nat) (lb : Array Value) (w : World) :
    Calls Tryz.prog 328 #[.slice none 0 0, .func (.func f) #[] lb] w fun e w' => e = .returned (.bool false) ∧ w' = w := by
  go_enter Tryz.func328, Tryz.ntmps328
  go_wp2_with (first
    | (go_at_call 357; refine (indexTm_nil f lb _).mono ?_; rintro e w1 ⟨rfl, rfl⟩)
    | fail)
  go_ret
  exact ⟨rfl, rfl⟩
theorem countTm_any (w : World) : Calls Tryz.prog 271 #[beforeV, .int .i64 40] w fun e w' => e = .returned (.int .i64 1) ∧ Below w.heap.size w w' := by
  go_enter Tryz.func271, Tryz.ntmps271
  go_upto_region 1 with fail
  obtain ⟨w1, hw1⟩ : ∃ w1 : World, w1 = w.alloc (.cells #[.int .i64 7, .int .i64 1, .int .i64 2, .slice none 0 0] 84) := ⟨_, rfl⟩
  rw [← hw1]
  have hr1 : w1.heap[w.heap.size]? = some (.cells #[.int .i64 7, .int .i64 1, .int .i64 2, .slice none 0 0] 84 (0, 0)) := by rw [hw1]; exact heap_alloc_new w _
  have Hb1 : Hid (Below w.heap.size w w1) := Lib.hid (by rw [hw1]; exact (by repeat' (first | with_reducible exact Below.refl _ _ | with_reducible refine below_drewN ?_ _ | with_reducible refine Below.drew ?_ | with_reducible refine Below.alloc ?_ ?_ _ | with_reducible refine Below.setCell ?_ ?_ _ | with_reducible refine Below.trans ?_ (Below.mono (by with_reducible assumption) ?_) | (simp; done) | (simp; omega) | omega)))
  have d3 := cell_of_row _ _ 3 _ _ _ hr1
  clear hw1 hr1
  go_wp2
  go_loopw [5, 7, 11] (fun nv _ iv wr => nv = .int .i64 1 ∧ iv = .int .i64 0 ∧ wr = w1) (fun _ _ _ _ => 0)
  case atStart => exact ⟨rfl, rfl, rfl⟩
  case round =>
    obtain ⟨rfl, rfl, rfl⟩ := hrel
    go_wp2
    go_ret
    exact ⟨rfl, Hb1.out⟩
set_option maxHeartbeats 1000000 in
theorem rightTm_any (w : World) : Calls Tryz.prog 272 #[beforeV, .int .i64 8] w fun e w' => e = .returned (.bool true) ∧ Below w.heap.size w w' := by
  go_enter Tryz.func272, Tryz.ntmps272
  go_upto_region 1 with fail
  obtain ⟨w1, hw1⟩ : ∃ w1 : World, w1 = (w.alloc (.cells #[.int .i64 7, .int .i64 1, .int .i64 2, .slice none 0 0] 84)).alloc (.cells #[.int .i64 8] 3) := ⟨_, rfl⟩
  rw [← hw1]
  have hr1 : w1.heap[w.heap.size]? = some (.cells #[.int .i64 7, .int .i64 1, .int .i64 2, .slice none 0 0] 84 (0, 0)) := by rw [hw1]; exact (Below.heap_alloc _ _ _ (by simp)).trans (heap_alloc_new w _)
  have hq1 : w1.heap[w.heap.size + 1]? = some (.cells #[.int .i64 8] 3 (0, 0)) := by rw [hw1]; exact heap_alloc2_new w _ _
  have Hb1 : Hid (Below w.heap.size w w1) := Lib.hid (by rw [hw1]; exact (by repeat' (first | with_reducible exact Below.refl _ _ | with_reducible refine below_drewN ?_ _ | with_reducible refine Below.drew ?_ | with_reducible refine Below.alloc ?_ ?_ _ | with_reducible refine Below.setCell ?_ ?_ _ | with_reducible refine Below.trans ?_ (Below.mono (by with_reducible assumption) ?_) | (simp; done) | (simp; omega) | omega)))
  have d0 := cell_of_row _ _ 0 _ _ _ hr1
  have d1 := cell_of_row _ _ 1 _ _ _ hr1
  have d2 := cell_of_row _ _ 2 _ _ _ hr1
  have d3 := cell_of_row _ _ 3 _ _ _ hr1
  have q0 := cell_of_row _ _ 0 _ _ _ hq1
  clear hw1 hr1 hq1
  go_wp2_with (first
    | (go_at_call 325; refine (limitsTm_any _).mono ?_; rintro e w' ⟨rfl, rfl⟩)
    | (go_at_call 326; refine (kidsTm_any _).mono ?_; rintro e w' ⟨rfl, rfl⟩)
    | (go_at_call 327; refine (singleTm_any _).mono ?_; rintro e w' ⟨rfl, rfl⟩)
    | (go_at_call 328; refine (containsTm_nil _ _ _).mono ?_; rintro e w' ⟨rfl, rfl⟩)
    | fail)
  go_ret
  exact ⟨rfl, Hb1.out⟩
theorem checkTm_any (w : World) : Calls Tryz.prog 202 #[beforeV] w fun e w' => e = .returned (.int .i64 0) ∧ Below w.heap.size w w' := by
  go_enter Tryz.func202, Tryz.ntmps202
  go_upto_region 1 with fail
  obtain ⟨w1, hw1⟩ : ∃ w1 : World, w1 = w.alloc (.cells #[.int .i64 7, .int .i64 1, .int .i64 2, .slice none 0 0] 84) := ⟨_, rfl⟩
  rw [← hw1]
  have Hr1 : Hid (w1.heap[w.heap.size]? = some (.cells #[.int .i64 7, .int .i64 1, .int .i64 2, .slice none 0 0] 84 (0, 0))) := Lib.hid (by rw [hw1]; exact heap_alloc_new w _)
  have Hb1 : Hid (Below w.heap.size w w1) := Lib.hid (by rw [hw1]; exact (by repeat' (first | with_reducible exact Below.refl _ _ | with_reducible refine below_drewN ?_ _ | with_reducible refine Below.drew ?_ | with_reducible refine Below.alloc ?_ ?_ _ | with_reducible refine Below.setCell ?_ ?_ _ | with_reducible refine Below.trans ?_ (Below.mono (by with_reducible assumption) ?_) | (simp; done) | (simp; omega) | omega)))
  have hs1 : w.heap.size < w1.heap.size := by rw [hw1]; simp
  have d0 := cell_of_row _ _ 0 _ _ _ Hr1.out
  have d1 := cell_of_row _ _ 1 _ _ _ Hr1.out
  have d2 := cell_of_row _ _ 2 _ _ _ Hr1.out
  have d3 := cell_of_row _ _ 3 _ _ _ Hr1.out
  clear hw1
  go_wp2_with (first
    | (go_at_call 271
       refine (countTm_any _).mono ?_
       rintro e w2 ⟨rfl, hb2⟩
       have hr2 := (hb2.block w.heap.size hs1).trans Hr1.out
       have e0 := cell_of_row _ _ 0 _ _ _ hr2
       have e1 := cell_of_row _ _ 1 _ _ _ hr2
       have e2 := cell_of_row _ _ 2 _ _ _ hr2
       have e3 := cell_of_row _ _ 3 _ _ _ hr2
       have Hb2 := Lib.hid (Hb1.out.trans (hb2.mono (by omega)))
       clear hb2 hr2 d0 d1 d2 d3)
    | (go_at_call 272
       refine (rightTm_any _).mono ?_
       rintro e w3 ⟨rfl, hb3⟩
       have Hb3 := Lib.hid (Hb2.out.trans (hb3.mono Hb2.out.size))
       clear hb3)
    | fail)
  go_ret
  exact ⟨rfl, Hb3.out⟩
end Go.Proofs.YtfmkmhhghmdakaaGreatDoor
namespace Go.Proofs.YtfmkmhhghmdakaaGreatDoor
open Go.RowKit
set_option linter.unusedVariables false
set_option linter.unusedSimpArgs false

/-- A record that is right. -/
structure RcOk (x : Rc) : Prop where
  yr : 0 ≤ x.yr ∧ x.yr ≤ 100
  cr : 0 ≤ x.cr ∧ x.cr < 40
  rg : validP x.rg = true
  ne : 0 < x.rg.length
/-- How records are ordered. -/
def rcLt (a b : Rc) : Prop := a.yr < b.yr ∨ (a.yr = b.yr ∧ a.cr < b.cr)
/-- A history that is right. -/
structure HyOk (l : List Rc) : Prop where
  ok : ∀ x ∈ l, RcOk x
  up : l.Pairwise rcLt
  dis : l.Pairwise fun a b => a.yr = b.yr → meetsP a.rg b.rg = false
  len : l.length ≤ 200
theorem rcs_get (l : RcL) (i : Nat) (h : i < l.length) : (rcs l)[i]'(by rw [rcs_len]; exact h) = l[i].1 := by simp [rcs]
theorem HyOk.step {l : RcL} (h : HyOk (rcs l)) (i j : Nat) (hij : i < j) (hj : j < l.length) : rcLt (l[i]'(by omega)).1 l[j].1 := by
  have := List.pairwise_iff_getElem.1 h.up i j (by rw [rcs_len]; omega) (by rw [rcs_len]; omega) hij
  rw [rcs_get l i (by omega), rcs_get l j hj] at this
  exact this
theorem HyOk.apart {l : RcL} (h : HyOk (rcs l)) (i j : Nat) (hij : i < j) (hj : j < l.length) (he : (l[i]'(by omega)).1.yr = l[j].1.yr) : meetsP (l[i]'(by omega)).1.rg l[j].1.rg = false := by
  have := List.pairwise_iff_getElem.1 h.dis i j (by rw [rcs_len]; omega) (by rw [rcs_len]; omega) hij
  rw [rcs_get l i (by omega), rcs_get l j hj] at this
  exact this he
end Go.Proofs.YtfmkmhhghmdakaaGreatDoor
namespace Go.Proofs.YtfmkmhhghmdakaaGreatDoor
open Go.RowKit
set_option linter.unusedVariables false
set_option linter.unusedSimpArgs false

/-- Two regions within a side have no square in common. -/
theorem meets_reg {s m k : Nat} (hs : s ≤ 10) {a b : List R4} (hm : m ≤ 120) (hk : k ≤ 120) (ha : Reg s m a) (hb : Reg s k b) : meetsP a b = false ↔ ∀ x y, ¬ (inL a x y = true ∧ inL b x y = true) := by
  unfold meetsP
  rw [ha.valid (by omega) hm, hb.valid (by omega) hk, Bool.true_and, Bool.true_and]
  have h := over_some ha.ins hb.ins
  constructor
  · intro h1 x y h2
    have := h.2 ⟨x, y, by rw [Bool.and_eq_true]; exact h2⟩
    rw [h1] at this; cases this
  · intro h1
    rw [Bool.eq_false_iff]
    intro h2
    obtain ⟨x, y, h3⟩ := h.1 h2
    rw [Bool.and_eq_true] at h3
    exact h1 x y h3
/-- What a record becomes when another one is written. -/
def oneA (y c : Int) (a : List R4) (x : Rc) : List Rc :=
  if x.yr = y ∧ x.cr = c then [] else if x.yr = y then (if (chooseP notB x.rg a).length = 0 then [] else [⟨x.yr, x.cr, chooseP notB x.rg a⟩]) else (if x.rg.length = 0 then [] else [x])
def mineA (y c : Int) (m : List R4) (x : Rc) : List R4 := if x.yr = y ∧ x.cr = c then chooseP orB m x.rg else m
/-- How many records stand ahead. -/
def ltKey (y c : Int) (x : Rc) : Bool := decide (x.yr < y) || (decide (x.yr = y) && decide (x.cr < c))
def addH (l : List Rc) (y c : Int) (a : List R4) : List Rc :=
  let out := l.flatMap (oneA y c a)
  let mine := l.foldl (mineA y c) a
  if mine.length = 0 then out else out.takeWhile (ltKey y c) ++ [⟨y, c, mine⟩] ++ out.dropWhile (ltKey y c)
/-- A history of the law: right, and within the side. -/
structure HyR (l : List Rc) : Prop where
  hy : HyOk l
  reg : ∀ x ∈ l, Reg 9 81 x.rg
  cr : ∀ x ∈ l, x.cr < 3
theorem oneA_of {y c : Int} {a : List R4} {x z : Rc} (h : z ∈ oneA y c a x) : z.yr = x.yr ∧ z.cr = x.cr ∧ ¬ (x.yr = y ∧ x.cr = c) ∧ 0 < z.rg.length ∧ (z.rg = x.rg ∧ x.yr ≠ y ∨ z.rg = chooseP notB x.rg a ∧ x.yr = y) := by
  unfold oneA at h
  split at h
  · cases h
  · rename_i h1
    split at h
    · rename_i h2
      split at h
      · cases h
      · rename_i h3
        rw [List.mem_singleton] at h
        subst h
        exact ⟨rfl, rfl, h1, Nat.pos_of_ne_zero h3, .inr ⟨rfl, h2⟩⟩
    · rename_i h2
      split at h
      · cases h
      · rename_i h3
        rw [List.mem_singleton] at h
        subst h
        exact ⟨rfl, rfl, h1, Nat.pos_of_ne_zero h3, .inl ⟨rfl, h2⟩⟩
theorem oneA_len (y c : Int) (a : List R4) (x : Rc) : (oneA y c a x).length ≤ 1 := by
  unfold oneA
  split
  · simp
  · split <;> split <;> simp
theorem keepA_len (y c : Int) (a : List R4) (l : List Rc) : (l.flatMap (oneA y c a)).length ≤ l.length := by
  induction l with
  | nil => simp
  | cons x t ih =>
    have := oneA_len y c a x
    rw [List.flatMap_cons, List.length_append, List.length_cons]; omega
theorem oneA_reg {y c : Int} {a : List R4} {k : Nat} {x z : Rc} (hx : Reg 9 81 x.rg) (ha : Reg 9 k a) (h : z ∈ oneA y c a x) : Reg 9 81 z.rg ∧ ∀ p q, inL z.rg p q = true → inL x.rg p q = true ∧ (x.yr = y → inL a p q = false) := by
  obtain ⟨_, _, _, _, h5⟩ := oneA_of h
  rcases h5 with ⟨e, hy⟩ | ⟨e, hy⟩
  · rw [e]; exact ⟨hx, fun p q hpq => ⟨hpq, fun h => absurd h hy⟩⟩
  · rw [e]
    refine ⟨choose_reg notB rfl 9 hx.ins ha.ins, fun p q hpq => ?_⟩
    rw [choose_mem notB rfl hx.ins.pos ha.ins.pos] at hpq
    unfold notB at hpq
    rw [Bool.and_eq_true] at hpq
    exact ⟨hpq.1, fun _ => by simpa using hpq.2⟩
theorem pair_flat {α β : Type} {R : α → α → Prop} {S : β → β → Prop} {f : α → List β} (hf : ∀ a, (f a).length ≤ 1) : ∀ {l : List α}, l.Pairwise R → (∀ a ∈ l, ∀ b ∈ l, R a b → ∀ x ∈ f a, ∀ y ∈ f b, S x y) → (l.flatMap f).Pairwise S
  | [], _, _ => by simp
  | a :: t, h, hs => by
    rw [List.flatMap_cons, List.pairwise_append]
    obtain ⟨h1, h2⟩ := List.pairwise_cons.1 h
    refine ⟨?_, pair_flat hf h2 (fun x hx y hy => hs x (List.mem_cons_of_mem _ hx) y (List.mem_cons_of_mem _ hy)), fun x hx y hy => ?_⟩
    · have := hf a
      match f a, this with
      | [], _ => exact List.Pairwise.nil
      | [z], _ => exact List.pairwise_singleton _ _
      | _ :: _ :: _, h => simp at h
    · obtain ⟨b, hb, hy⟩ := List.mem_flatMap.1 hy
      exact hs a (by simp) b (List.mem_cons_of_mem _ hb) (h1 b hb) x hx y hy
/-- What is mine: the region, and the record of the same crop. -/
theorem mine_reg {y c : Int} : ∀ {l : List Rc} {m : List R4} {k : Nat}, k ≤ 120 → (∀ x ∈ l, Reg 9 81 x.rg) → Reg 9 k m → (∃ k', k' ≤ 120 ∧ Reg 9 k' (l.foldl (mineA y c) m)) ∧ ∀ p q, inL (l.foldl (mineA y c) m) p q = true → inL m p q = true ∨ ∃ x ∈ l, x.yr = y ∧ x.cr = c ∧ inL x.rg p q = true
  | [], m, k, hk, _, hm => ⟨⟨k, hk, hm⟩, fun p q h => .inl h⟩
  | x :: t, m, k, hk, hl, hm => by
    have hx := hl x (by simp)
    rw [List.foldl_cons]
    by_cases h : x.yr = y ∧ x.cr = c
    · have e : mineA y c m x = chooseP orB m x.rg := if_pos h
      rw [e]
      obtain ⟨h1, h2⟩ := mine_reg (y := y) (c := c) (l := t) (k := 81) (by omega) (fun z hz => hl z (List.mem_cons_of_mem _ hz)) (choose_reg orB rfl 9 hm.ins hx.ins)
      refine ⟨h1, fun p q hpq => ?_⟩
      rcases h2 p q hpq with h3 | ⟨z, hz, h4⟩
      · rw [choose_mem orB rfl hm.ins.pos hx.ins.pos] at h3
        unfold orB at h3
        rw [Bool.or_eq_true] at h3
        rcases h3 with h3 | h3
        · exact .inl h3
        · exact .inr ⟨x, by simp, h.1, h.2, h3⟩
      · exact .inr ⟨z, List.mem_cons_of_mem _ hz, h4⟩
    · have e : mineA y c m x = m := if_neg h
      rw [e]
      obtain ⟨h1, h2⟩ := mine_reg (y := y) (c := c) (l := t) hk (fun z hz => hl z (List.mem_cons_of_mem _ hz)) hm
      refine ⟨h1, fun p q hpq => ?_⟩
      rcases h2 p q hpq with h3 | ⟨z, hz, h4⟩
      · exact .inl h3
      · exact .inr ⟨z, List.mem_cons_of_mem _ hz, h4⟩
theorem ltKey_iff (y c : Int) (x : Rc) : ltKey y c x = true ↔ x.yr < y ∨ (x.yr = y ∧ x.cr < c) := by
  simp [ltKey]
/-- Writing keeps a history right. -/
theorem addH_ok {l : List Rc} (h : HyR l) (hl : l.length < 200) {y c : Int} (hy : 0 ≤ y ∧ y ≤ 100) (hc : 0 ≤ c ∧ c < 3) {a : List R4} {k : Nat} (hk : k ≤ 120) (ha : Reg 9 k a) : HyR (addH l y c a) ∧ (addH l y c a).length ≤ l.length + 1 := by
  obtain ⟨out, hout⟩ : ∃ out, out = l.flatMap (oneA y c a) := ⟨_, rfl⟩
  obtain ⟨mine, hmine⟩ : ∃ m, m = l.foldl (mineA y c) a := ⟨_, rfl⟩
  obtain ⟨⟨k', hk', hmr⟩, hmi⟩ := mine_reg (y := y) (c := c) hk h.reg ha
  rw [← hmine] at hmr hmi
  have hol : out.length ≤ l.length := by rw [hout]; exact keepA_len _ _ _ _
  have hof : ∀ z ∈ out, ∃ x ∈ l, z ∈ oneA y c a x := fun z hz => by rw [hout] at hz; exact List.mem_flatMap.1 hz
  have hox : ∀ z ∈ out, RcOk z ∧ Reg 9 81 z.rg ∧ z.cr < 3 ∧ ¬ (z.yr = y ∧ z.cr = c) := fun z hz => by
    obtain ⟨x, hx, hzx⟩ := hof z hz
    obtain ⟨e1, e2, h3, h4, _⟩ := oneA_of hzx
    have h5 := (oneA_reg (h.reg x hx) ha hzx).1
    have h6 := h.hy.ok x hx
    exact ⟨⟨by rw [e1]; exact h6.yr, by rw [e2]; exact h6.cr, h5.valid (by omega) (by omega), h4⟩, h5, by rw [e2]; exact h.cr x hx, by rw [e1, e2]; exact h3⟩
  have hup : out.Pairwise rcLt := by
    rw [hout]
    refine pair_flat (oneA_len y c a) h.hy.up fun p hp q hq hpq x hx z hz => ?_
    obtain ⟨e1, e2, _⟩ := oneA_of hx
    obtain ⟨e3, e4, _⟩ := oneA_of hz
    unfold rcLt at *
    rw [e1, e2, e3, e4]
    exact hpq
  have hdis : out.Pairwise fun p q => p.yr = q.yr → meetsP p.rg q.rg = false := by
    rw [hout]
    refine pair_flat (oneA_len y c a) h.hy.dis fun p hp q hq hpq x hx z hz => fun e => ?_
    obtain ⟨e1, _⟩ := oneA_of hx
    obtain ⟨e3, _⟩ := oneA_of hz
    obtain ⟨r1, s1⟩ := oneA_reg (h.reg p hp) ha hx
    obtain ⟨r2, s2⟩ := oneA_reg (h.reg q hq) ha hz
    refine (meets_reg (s := 9) (by omega) (by omega) (by omega) r1 r2).2 fun u v huv => ?_
    exact (meets_reg (s := 9) (by omega) (by omega) (by omega) (h.reg p hp) (h.reg q hq)).1 (hpq (by omega)) u v ⟨(s1 u v huv.1).1, (s2 u v huv.2).1⟩
  have hmd : ∀ z ∈ out, z.yr = y → ∀ u v, ¬ (inL z.rg u v = true ∧ inL mine u v = true) := fun z hz hzy u v huv => by
    obtain ⟨x, hx, hzx⟩ := hof z hz
    obtain ⟨e1, e2, h3, _, _⟩ := oneA_of hzx
    obtain ⟨r1, s1⟩ := oneA_reg (h.reg x hx) ha hzx
    obtain ⟨h5, h6⟩ := s1 u v huv.1
    rcases hmi u v huv.2 with h7 | ⟨x', hx', hy', hc', h7⟩
    · rw [h6 (by omega)] at h7; cases h7
    · obtain ⟨i, hi, rfl⟩ := List.mem_iff_getElem.1 hx
      obtain ⟨j, hj, rfl⟩ := List.mem_iff_getElem.1 hx'
      rcases Nat.lt_trichotomy i j with hij | hij | hij
      · exact (meets_reg (s := 9) (by omega) (by omega) (by omega) (h.reg _ hx) (h.reg _ hx')).1 (List.pairwise_iff_getElem.1 h.hy.dis i j hi hj hij (by omega)) u v ⟨h5, h7⟩
      · subst hij; exact h3 ⟨hy', hc'⟩
      · exact (meets_reg (s := 9) (by omega) (by omega) (by omega) (h.reg _ hx') (h.reg _ hx)).1 (List.pairwise_iff_getElem.1 h.hy.dis j i hj hi hij (by omega)) u v ⟨h7, h5⟩
  have e : addH l y c a = if mine.length = 0 then out else out.takeWhile (ltKey y c) ++ [⟨y, c, mine⟩] ++ out.dropWhile (ltKey y c) := by rw [hout, hmine]; rfl
  rw [e]
  by_cases hm0 : mine.length = 0
  · rw [if_pos hm0]
    exact ⟨⟨⟨fun z hz => (hox z hz).1, hup, hdis, by omega⟩, fun z hz => (hox z hz).2.1, fun z hz => (hox z hz).2.2.1⟩, by omega⟩
  · rw [if_neg hm0]
    obtain ⟨T, hT⟩ : ∃ T, T = out.takeWhile (ltKey y c) := ⟨_, rfl⟩
    obtain ⟨D, hD⟩ : ∃ D, D = out.dropWhile (ltKey y c) := ⟨_, rfl⟩
    have hTD : T ++ D = out := by rw [hT, hD]; exact List.takeWhile_append_dropWhile
    have hTlt : ∀ z ∈ T, z.yr < y ∨ (z.yr = y ∧ z.cr < c) := fun z hz => (ltKey_iff y c z).1 (by
      rw [hT] at hz
      exact List.all_eq_true.1 (List.all_takeWhile (p := ltKey y c)) z hz)
    have hDge : ∀ z ∈ D, ¬ (z.yr < y ∨ (z.yr = y ∧ z.cr < c)) := by
      intro z hz
      cases hDc : D with
      | nil => rw [hDc] at hz; cases hz
      | cons d t =>
        have hd : ltKey y c d = false := by
          have := List.head?_dropWhile_not (p := ltKey y c) (l := out)
          rw [← hD, hDc] at this
          simpa using this
        have hd2 : ¬ (d.yr < y ∨ (d.yr = y ∧ d.cr < c)) := fun hh => by rw [(ltKey_iff y c d).2 hh] at hd; cases hd
        rw [hDc] at hz
        rcases List.mem_cons.1 hz with rfl | hz
        · exact hd2
        · have hpd : (d :: t).Pairwise rcLt := by
            rw [← hDc]
            rw [← hTD] at hup
            exact (List.pairwise_append.1 hup).2.1
          have := (List.pairwise_cons.1 hpd).1 z hz
          unfold rcLt at this
          omega
    rw [← hT, ← hD]
    have hmem : ∀ z ∈ T ++ [(⟨y, c, mine⟩ : Rc)] ++ D, z ∈ out ∨ z = ⟨y, c, mine⟩ := fun z hz => by
      rw [← hTD]
      rcases List.mem_append.1 hz with hz | hz
      · rcases List.mem_append.1 hz with hz | hz
        · exact .inl (List.mem_append_left _ hz)
        · exact .inr (List.mem_singleton.1 hz)
      · exact .inl (List.mem_append_right _ hz)
    have hmr81 : Reg 9 81 mine := ⟨hmr.ins, hmr.canon, by
      have := canonP_side (s := 9) hmr.ins
      rw [hmr.canon] at this; omega⟩
    have hnew : RcOk ⟨y, c, mine⟩ := ⟨hy, by dsimp only; omega, hmr81.valid (by omega) (by omega), Nat.pos_of_ne_zero hm0⟩
    have hlen : (T ++ [(⟨y, c, mine⟩ : Rc)] ++ D).length = out.length + 1 := by
      rw [← hTD]; simp; omega
    have hup2 := hup
    rw [← hTD] at hup2
    have hdis2 := hdis
    rw [← hTD] at hdis2
    obtain ⟨u1, u2, u3⟩ := List.pairwise_append.1 hup2
    obtain ⟨d1, d2, d3⟩ := List.pairwise_append.1 hdis2
    have hmz : ∀ z ∈ out, z.yr = y → meetsP z.rg mine = false ∧ meetsP mine z.rg = false := fun z hz hzy =>
      ⟨(meets_reg (s := 9) (by omega) (by omega) (by omega) (hox z hz).2.1 hmr81).2 (hmd z hz hzy), (meets_reg (s := 9) (by omega) (by omega) (by omega) hmr81 (hox z hz).2.1).2 (fun u v huv => hmd z hz hzy u v ⟨huv.2, huv.1⟩)⟩
    have hTo : ∀ z ∈ T, z ∈ out := fun z hz => by rw [← hTD]; exact List.mem_append_left _ hz
    have hDo : ∀ z ∈ D, z ∈ out := fun z hz => by rw [← hTD]; exact List.mem_append_right _ hz
    refine ⟨⟨⟨fun z hz => ?_, ?_, ?_, by omega⟩, fun z hz => ?_, fun z hz => ?_⟩, by omega⟩
    · rcases hmem z hz with h1 | rfl
      · exact (hox z h1).1
      · exact hnew
    · refine List.pairwise_append.2 ⟨List.pairwise_append.2 ⟨u1, List.pairwise_singleton _ _, fun p hp q hq => ?_⟩, u2, fun p hp q hq => ?_⟩
      · rw [List.mem_singleton] at hq; subst hq
        exact hTlt p hp
      · rcases List.mem_append.1 hp with hp | hp
        · exact u3 p hp q hq
        · rw [List.mem_singleton] at hp; subst hp
          have h1 := hDge q hq
          have h2 := (hox q (hDo q hq)).2.2.2
          unfold rcLt
          dsimp only
          omega
    · refine List.pairwise_append.2 ⟨List.pairwise_append.2 ⟨d1, List.pairwise_singleton _ _, fun p hp q hq => ?_⟩, d2, fun p hp q hq => ?_⟩
      · rw [List.mem_singleton] at hq; subst hq
        exact fun e => (hmz p (hTo p hp) e).1
      · rcases List.mem_append.1 hp with hp | hp
        · exact d3 p hp q hq
        · rw [List.mem_singleton] at hp; subst hp
          exact fun e => (hmz q (hDo q hq) e.symm).2
    · rcases hmem z hz with h1 | rfl
      · exact (hox z h1).2.1
      · exact hmr81
    · rcases hmem z hz with h1 | rfl
      · exact (hox z h1).2.2.1
      · exact hc.2
end Go.Proofs.YtfmkmhhghmdakaaGreatDoor
namespace Go.Proofs.YtfmkmhhghmdakaaGreatDoor
open Go.RowKit Go.Shelf
set_option linter.unusedVariables false
set_option linter.unusedSimpArgs false

theorem own_lt {w : World} {base : Nat} {e : TypeId} {size n : Nat} {v : Value} {xs : List Value} (h : w.ownsRow base e size v n xs) : ∀ g, v.ownBlock = some g → g < w.heap.size := by
  intro g hg
  rcases h.2 with ⟨rfl, _⟩ | ⟨g', cap, cur, rfl, _, hh, _⟩
  · simp [Value.ownBlock] at hg
  · have e : g' = g := by simpa [Value.ownBlock] using hg
    subst e
    rcases Nat.lt_or_ge g' w.heap.size with h | h
    · exact h
    · rw [Array.getElem?_eq_none h] at hh; cases hh
theorem own_grown {w w' : World} {base : Nat} {e : TypeId} {size n : Nat} {v : Value} {xs : List Value} {row : Option Nat} (h : w.ownsRow base e size v n xs) (hg : w.grownBy w' row) (hr : ∀ g, v.ownBlock = some g → row ≠ some g) : w'.ownsRow base e size v n xs := by
  obtain ⟨h1, h2⟩ := h
  refine ⟨h1, ?_⟩
  rcases h2 with h2 | ⟨g', cap, cur, rfl, hb, hh, r⟩
  · exact .inl h2
  · have hlt : g' < w.heap.size := by
      rcases Nat.lt_or_ge g' w.heap.size with h | h
      · exact h
      · rw [Array.getElem?_eq_none h] at hh; cases hh
    exact .inr ⟨g', cap, cur, rfl, hb, (hg.block g' hlt (fun e => hr g' (by simp [Value.ownBlock]) e.symm)).trans hh, r⟩
end Go.Proofs.YtfmkmhhghmdakaaGreatDoor

namespace Go.Proofs.YtfmkmhhghmdakaaGreatDoor
open Go.RowKit Go.Shelf
set_option linter.unusedVariables false
set_option linter.unusedSimpArgs false

/-- Regions that lie in a world. -/
abbrev GS (w : World) := { x : List R4 × LV // SlR w x.2.a x.1.length x.2.c x.1 }
instance (w : World) : Inhabited (GS w) := ⟨⟨([], ⟨none, 0⟩), SlR.nil w⟩⟩
set_option maxHeartbeats 1000000 in
theorem canonical_big (A : Option Addr) (n c : Nat) (l : List R4) (w : World) (hA : SlR w A n c l) (hn1 : n ≤ 50000) (hc1 : (cutsP l).length ≤ 100) (hl : ∀ q ∈ l, q.l < q.r) :
    Calls Tryz.prog 134 #[.slice A n c] w fun e w' => ∃ v, e = .returned v ∧ w'.ownsRow w.heap.size 68 4 v (canonP l).length (rCells (canonP l)) ∧ Below w.heap.size w w' := by
  have hn := hA.len
  have HA := Lib.hid hA
  have Hl := Lib.hid hl
  have Hcl := Lib.hid hc1
  clear hc1
  have Hflat : Hid (cutsP [l].flatten = cutsP l) := Lib.hid (by simp)
  have Hcan : Hid (buildP (rowP l) (cutsP l) = canonP l) := Lib.hid rfl
  have Hrl := Lib.hid (fun y => rowP_len l y)
  have eg : ∀ args w, (callFunc 218 args).run Tryz.prog w = .ok (.enter 218 args) w := enters_of Tryz.func218 (by kernel_rfl) rfl
  have Eg := Lib.hid eg
  clear hA hl eg
  go_enter Tryz.func134, Tryz.ntmps134
  go_wp2_with (first
    | (go_at_call 137
       refine (cuts_any (some ⟨w.heap.size + 1, 0, none⟩) 1 1 [l] _ rfl (by omega) (fun i hi => ⟨w.heap.size + 1, 0, A, n, c, rfl, by simp, by obtain rfl : i = 0 := (by simpa using hi); exact cell_of_row _ (w.heap.size + 1) 0 _ _ _ (heap_alloc2_new w _ _), by obtain rfl : i = 0 := (by simpa using hi); exact HA.out.below (by repeat' (first | with_reducible exact Below.refl _ _ | with_reducible refine below_drewN ?_ _ | with_reducible refine Below.drew ?_ | with_reducible refine Below.alloc ?_ ?_ _ | with_reducible refine Below.setCell ?_ ?_ _ | with_reducible refine Below.trans ?_ (Below.mono (by with_reducible assumption) ?_) | (simp; done) | (simp; omega) | omega))⟩) (by simp; omega)).mono ?_
       rintro e w1 ⟨v1, rfl, hown1, hb1⟩
       rw [Hflat.out] at hown1
       obtain ⟨C, cc, rfl, hC⟩ := SlI.of_own hown1
       have HC := Lib.hid hC
       have Hb1 : Hid (Below w.heap.size w w1) := Lib.hid (show Below w.heap.size w w1 from (by have hbq := hb1; exact (by repeat' (first | with_reducible exact Below.refl _ _ | with_reducible assumption | with_reducible refine below_drewN ?_ _ | with_reducible refine Below.drew ?_ | with_reducible refine Below.alloc ?_ ?_ _ | with_reducible refine Below.setCell ?_ ?_ _ | with_reducible refine Below.trans ?_ (Below.mono (by with_reducible assumption) ?_) | with_reducible refine below_only ?_ (by with_reducible assumption) ?_ ?_ | (simp; done) | (simp; omega) | omega))))
       have hs1 : w.heap.size < w1.heap.size := (by have := hb1.size; simp at this; omega)
       have cg1 : w1.cell? ⟨w.heap.size, 0, none⟩ = some (.slice A n c) := (hb1.cell (p := ⟨w.heap.size, 0, none⟩) (by simp; omega)).trans (cell_of_row _ w.heap.size 0 _ _ _ ((Below.heap_alloc _ _ _ (by simp)).trans (heap_alloc_new w _)))
       clear hown1 hb1 hC)
    | (go_at_call 136
       refine (build_any 218 #[.pointer (some ⟨w.heap.size, 0, none⟩)] (rowP l) n C (cutsP l).length cc (cutsP l) w1 HC.out (by have := Hcl.out; omega) (fun y => by have := Hrl.out y; omega) (by omega) (by have h1 := Nat.mul_le_mul_right n Hcl.out; omega) Eg.out (fun W y hW => canonRow_any w.heap.size A n c l y W ((hW.cell (p := ⟨w.heap.size, 0, none⟩) hs1).trans cg1) (HA.out.below (Hb1.out.trans (hW.mono (Nat.le_of_lt hs1)))) (by omega) Hl.out)).mono ?_
       rintro e w2 ⟨v2, rfl, hown2, hb2⟩
       rw [Hcan.out] at hown2
       have Hown2 := Lib.hid hown2
       have Hb2 := Lib.hid hb2
       clear hown2 hb2)
    | fail)
  go_ret
  exact ⟨v2, rfl, own_rebase Hown2.out (Nat.le_of_lt hs1), Hb1.out.trans (Hb2.out.mono (Nat.le_of_lt hs1))⟩

/-- What Limited and Joined return. -/
def limP (l : List R4) : List R4 × Int := if 120 < l.length then ([], 1) else (l, 0)
set_option maxHeartbeats 1000000 in
theorem joined_big (A : Option Addr) (n c : Nat) (l : List R4) (w : World) (hA : SlR w A n c l) (hn1 : n ≤ 50000) (hc1 : (cutsP l).length ≤ 100) (hl : ∀ q ∈ l, q.l < q.r) :
    Calls Tryz.prog 76 #[.slice A n c] w (RegPost w (limP (canonP l))) := by
  have HC := Lib.hid (fun W (hW : Below w.heap.size w W) => canonical_big A n c l W (hA.below hW) hn1 hc1 hl)
  generalize canonP l = k at *
  clear hA hl hc1
  by_cases hk : 120 < k.length
  · have e0 : limP k = ([], 1) := by unfold limP; rw [if_pos hk]
    rw [e0]
    clear e0
    go_enter Tryz.func76, Tryz.ntmps76
    go_wp2_with (first
      | (go_at_call 134; refine (HC.out _ (by repeat' (first | with_reducible exact Below.refl _ _ | with_reducible refine below_drewN ?_ _ | with_reducible refine Below.drew ?_ | with_reducible refine Below.alloc ?_ ?_ _ | with_reducible refine Below.setCell ?_ ?_ _ | with_reducible refine Below.trans ?_ (Below.mono (by with_reducible assumption) ?_) | (simp; done) | (simp; omega) | omega))).mono ?_; rintro e w2 ⟨v2, rfl, hown2, hb2⟩; have hr2 : w2.heap[w.heap.size]? = some (.cells #[.slice none 0 0] 33 (0, 0)) := (hb2.block _ (by simp)).trans (heap_alloc_new w _); have Hr2 := Lib.hid hr2; have hs2 : w.heap.size < w2.heap.size := (by have := hb2.size; simp at this; omega); obtain ⟨C, cc, rfl, -⟩ := SlR.of_own hown2; have Hb2 : Hid (Below w.heap.size w w2) := Lib.hid (show Below w.heap.size w w2 from (by have hbq := hb2; exact (by repeat' (first | with_reducible exact Below.refl _ _ | with_reducible assumption | with_reducible refine below_drewN ?_ _ | with_reducible refine Below.drew ?_ | with_reducible refine Below.alloc ?_ ?_ _ | with_reducible refine Below.setCell ?_ ?_ _ | with_reducible refine Below.trans ?_ (Below.mono (by with_reducible assumption) ?_) | with_reducible refine below_only ?_ (by with_reducible assumption) ?_ ?_ | (simp; done) | (simp; omega) | omega)))); clear hown2 hb2 hr2)
      | (go_at_call 56; refine (limited_big C k.length cc _ hk).mono ?_; rintro e w3 ⟨rfl, hb3⟩; have hr3 : w3.heap[w.heap.size]? = some (.cells #[.slice none 0 0] 33 (0, 0)) := (hb3.block _ hs2).trans Hr2.out; have cr3 := cell_of_row w3 w.heap.size 0 _ _ _ hr3; have fr3 := frozen_of_row w3 w.heap.size 0 _ _ hr3; have csame : (w3.setCell ⟨w.heap.size, 0, none⟩ (.slice none 0 0)).cell? ⟨w.heap.size, 0, none⟩ = some (.slice none 0 0) := (by rw [cell_of_row _ w.heap.size 0 _ _ _ (heap_setCell_same w3 w.heap.size 0 _ _ _ hr3)]; simp); have Hb3 := Lib.hid hb3; clear hb3 hr3)
      | fail)
    refine bodyPost_ret (v := .tuple #[.agg #[.slice none 0 0], .int .i64 1]) (by simp [results, Tryz.results76, go_sem, *]) rfl ?_
    exact ⟨_, rfl, World.ownsRow_nil _ _ _ _, (Hb2.out.trans (Hb3.out.mono (Nat.le_of_lt hs2))).setCell (Nat.le_refl _) _⟩
  · have e0 : limP k = (k, 0) := by unfold limP; rw [if_neg hk]
    rw [e0]
    clear e0
    have hk' : k.length ≤ 120 := by omega
    go_enter Tryz.func76, Tryz.ntmps76
    go_wp2_with (first
      | (go_at_call 134; refine (HC.out _ (by repeat' (first | with_reducible exact Below.refl _ _ | with_reducible refine below_drewN ?_ _ | with_reducible refine Below.drew ?_ | with_reducible refine Below.alloc ?_ ?_ _ | with_reducible refine Below.setCell ?_ ?_ _ | with_reducible refine Below.trans ?_ (Below.mono (by with_reducible assumption) ?_) | (simp; done) | (simp; omega) | omega))).mono ?_; rintro e w2 ⟨v2, rfl, hown2, hb2⟩; have hr2 : w2.heap[w.heap.size]? = some (.cells #[.slice none 0 0] 33 (0, 0)) := (hb2.block _ (by simp)).trans (heap_alloc_new w _); have Hr2 := Lib.hid hr2; have hs2 : w.heap.size < w2.heap.size := (by have := hb2.size; simp at this; omega); obtain ⟨C, cc, rfl, -⟩ := SlR.of_own hown2; have Hown2 := Lib.hid hown2; have Hb2 : Hid (Below w.heap.size w w2) := Lib.hid (show Below w.heap.size w w2 from (by have hbq := hb2; exact (by repeat' (first | with_reducible exact Below.refl _ _ | with_reducible assumption | with_reducible refine below_drewN ?_ _ | with_reducible refine Below.drew ?_ | with_reducible refine Below.alloc ?_ ?_ _ | with_reducible refine Below.setCell ?_ ?_ _ | with_reducible refine Below.trans ?_ (Below.mono (by with_reducible assumption) ?_) | with_reducible refine below_only ?_ (by with_reducible assumption) ?_ ?_ | (simp; done) | (simp; omega) | omega)))); clear hown2 hb2 hr2)
      | (go_at_call 56; refine (limited_ok C k.length cc _ hk').mono ?_; rintro e w3 ⟨rfl, hb3⟩; have hr3 : w3.heap[w.heap.size]? = some (.cells #[.slice none 0 0] 33 (0, 0)) := (hb3.block _ hs2).trans Hr2.out; have cr3 := cell_of_row w3 w.heap.size 0 _ _ _ hr3; have fr3 := frozen_of_row w3 w.heap.size 0 _ _ hr3; have csame : (w3.setCell ⟨w.heap.size, 0, none⟩ (.slice C k.length cc)).cell? ⟨w.heap.size, 0, none⟩ = some (.slice C k.length cc) := (by rw [cell_of_row _ w.heap.size 0 _ _ _ (heap_setCell_same w3 w.heap.size 0 _ _ _ hr3)]; simp); have Hown3 := Lib.hid (ownsRow_below Hown2.out hb3); have Hb3 := Lib.hid hb3; clear hb3 hr3)
      | fail)
    refine bodyPost_ret (v := .tuple #[.agg #[.slice C k.length cc], .int .i64 0]) (by simp [results, Tryz.results76, go_sem, *]) rfl ?_
    have hlow := own_base Hown3.out
    refine ⟨_, rfl, ?_, (Hb2.out.trans (Hb3.out.mono (Nat.le_of_lt hs2))).setCell (Nat.le_refl _) _⟩
    exact own_other (own_rebase Hown3.out (by simp)) (only_setCell (g := w.heap.size) (World.grownBy.refl _ _) (.inl rfl) _) (fun k hk e => by injection e with e; have := hlow k hk; simp at this; omega)
end Go.Proofs.YtfmkmhhghmdakaaGreatDoor
namespace Go.Proofs.YtfmkmhhghmdakaaGreatDoor
open Go.RowKit Go.Shelf
set_option linter.unusedVariables false
set_option linter.unusedSimpArgs false

set_option maxHeartbeats 1000000 in
theorem cloneR_any (A : Option Addr) (n c : Nat) (l : List R4) (w : World) (hA : SlR w A n c l) (hn : n ≤ 1000000) :
    Calls Tryz.prog 109 #[.slice A n c] w fun e w' => ∃ v, e = .returned v ∧ w'.ownsRow w.heap.size 68 4 v n (rCells l) ∧ Below w.heap.size w w' := by
  obtain ⟨i0, hi, hz0, hz1, hz2⟩ := info_parts Tryz.infoRect
  have hx := hA.len
  have hL := hA.lies
  have HA := Lib.hid (hL.reads (size := 4) (by rw [rCells_len, hx]))
  clear hA
  rcases A with _ | ad
  · have hn0 : n = 0 := hL.resolve_right (by rintro ⟨_, _, h, _⟩; cases h)
    subst hn0
    obtain rfl : l = [] := List.length_eq_zero_iff.1 hx
    clear hx hL HA
    have hnil := fun W : World => Lib.run_eql_slice_nil (P := Tryz.prog) W 31 68 none 0 c 0 0 Tryz.underlying31
    go_enter Tryz.func109, Tryz.ntmps109
    go_wp2
    go_ret
    exact ⟨_, rfl, World.ownsRow_nil _ _ _ _, Below.refl _ _⟩
  · clear hx hL
    have hnil := fun W : World => Lib.run_eql_slice_nil (P := Tryz.prog) W 31 68 (some ad) n c 0 0 Tryz.underlying31
    go_enter Tryz.func109, Tryz.ntmps109
    go_wp2_with (at_builtin
                 refine wpList_append_any _ rfl (.tmp 5) (.tmp 6) _ rfl w.heap.size 68 i0 _ 4 32 Tryz.underlying31 hi hz0 hz1 hz2 rfl (by omega) (.slice (some ⟨w.heap.size, 0, none⟩) 0 0) 0 [] rfl
                   (own_zero w _ _ _ (Nat.le_refl _)) w.heap.size (some ad) n c (rCells l) rfl (HA.out.alloc (Nat.le_refl _) _) (rCells_one l) (by simp only [maxLen]; omega) (by omega) (by simp) ?_
                 intro v1 w1 hown1 hg1 hat1)
    go_ret
    refine ⟨v1, rfl, by simpa using hown1, ?_⟩
    exact ((Below.refl _ _).alloc (Nat.le_refl _) _).grown hg1 (by simp) (by intro k hk; simp [Value.ownBlock] at hk; omega)
/-- What copied leaves. -/
def CopPost (w : World) (x : Ft) (e : Ending) (w' : World) : Prop :=
  ∃ v : LV, e = .returned (.agg #[.int .i64 x.num, .int .i64 x.kd, .int .i64 x.fr, .int .i64 x.un, .slice v.a x.rg.length v.c]) ∧ w'.ownsRow w.heap.size 68 4 (.slice v.a x.rg.length v.c) x.rg.length (rCells x.rg) ∧ Below w.heap.size w w'
set_option maxHeartbeats 2000000 in
set_option maxRecDepth 100000 in
theorem copied_any9 (x : Ft) (v : LV) (w : World) (hx : SlR w v.a x.rg.length v.c x.rg) (hn : x.rg.length ≤ 1000000) :
    Calls Tryz.prog 176 #[.agg #[.int .i64 x.num, .int .i64 x.kd, .int .i64 x.fr, .int .i64 x.un, .slice v.a x.rg.length v.c]] w (CopPost w x) := by
  obtain ⟨num, kd, fr, un, rg⟩ := x
  dsimp only at hx hn ⊢
  have Hx := Lib.hid hx
  obtain ⟨n, hne⟩ : ∃ n, rg.length = n := ⟨_, rfl⟩
  have Hne := Lib.hid hne
  rw [hne] at Hx hn ⊢
  clear hx hne
  go_enter Tryz.func176, Tryz.ntmps176
  go_upto_region 1 with fail
  obtain ⟨w0, hw0⟩ : ∃ w0 : World, w0 = (w.alloc (.cells #[.int .i64 num, .int .i64 kd, .int .i64 fr, .int .i64 un, .slice v.a n v.c] 54)).alloc (.cells #[.int .i64 0, .int .i64 0, .int .i64 0, .int .i64 0, .slice none 0 0] 54) := ⟨_, rfl⟩
  rw [← hw0]
  have hr0 : w0.heap[w.heap.size]? = some (.cells #[.int .i64 num, .int .i64 kd, .int .i64 fr, .int .i64 un, .slice v.a n v.c] 54 (0, 0)) := by rw [hw0]; exact (Below.heap_alloc _ _ _ (by simp)).trans (heap_alloc_new w _)
  have Hz0 : Hid (w0.heap[w.heap.size + 1]? = some (.cells #[.int .i64 0, .int .i64 0, .int .i64 0, .int .i64 0, .slice none 0 0] 54 (0, 0))) := Lib.hid (by rw [hw0]; exact heap_alloc2_new w _ _)
  have Hb0 : Hid (Below w.heap.size w w0) := Lib.hid (by rw [hw0]; exact (by repeat' (first | with_reducible exact Below.refl _ _ | with_reducible refine below_drewN ?_ _ | with_reducible refine Below.drew ?_ | with_reducible refine Below.alloc ?_ ?_ _ | with_reducible refine Below.setCell ?_ ?_ _ | with_reducible refine Below.trans ?_ (Below.mono (by with_reducible assumption) ?_) | (simp; done) | (simp; omega) | omega)))
  have hs0 : w0.heap.size = w.heap.size + 2 := by rw [hw0]; simp
  have Hs0 := Lib.hid hs0
  have c4 := cell_of_row _ _ 4 _ _ _ hr0
  have Hr0 := Lib.hid hr0
  have Hx0 := Lib.hid (Hx.out.below Hb0.out)
  clear hw0 hr0 hs0
  go_upto_region 2 with (first
    | (go_at_call 109
       refine (cloneR_any v.a n v.c rg _ Hx0.out hn).mono ?_
       rintro e w1 ⟨u, rfl, hown1, hb1⟩
       obtain ⟨A1, d1, rfl, _, _, _⟩ := own_slice hown1
       have hs0 := Hs0.out
       have hr1 := (hb1.block w.heap.size (by omega)).trans Hr0.out
       have Hr1 := Lib.hid hr1
       have Hz1 := Lib.hid ((hb1.block (w.heap.size + 1) (by omega)).trans Hz0.out)
       have Hb1 := Lib.hid (Hb0.out.trans (hb1.mono (by omega)))
       have Hown1 := Lib.hid (own_rebase (base' := w.heap.size + 2) hown1 (by omega))
       have g4 := frozen_of_row _ _ 4 _ _ hr1
       have d4 := cell_of_row _ _ 4 _ _ _ hr1
       clear hown1 hb1 hr1 hs0 c4)
    | fail)
  obtain ⟨w2, hw2⟩ : ∃ w2 : World, w2 = w1.setCell ⟨w.heap.size, 4, none⟩ (.slice A1 n d1) := ⟨_, rfl⟩
  rw [← hw2]
  have hr2 : w2.heap[w.heap.size]? = some (.cells #[.int .i64 num, .int .i64 kd, .int .i64 fr, .int .i64 un, .slice A1 n d1] 54 (0, 0)) := by
    rw [hw2]
    have h := heap_setCell_same w1 w.heap.size 4 _ _ (.slice A1 n d1) Hr1.out
    simpa using h
  have hz2 : w2.heap[w.heap.size + 1]? = some (.cells #[.int .i64 0, .int .i64 0, .int .i64 0, .int .i64 0, .slice none 0 0] 54 (0, 0)) := by
    rw [hw2]; exact (Below.heap_setCell _ _ _ _ (by show w.heap.size + 1 ≠ w.heap.size; omega)).trans Hz1.out
  have Hb2 : Hid (Below w.heap.size w w2) := Lib.hid (by rw [hw2]; exact Hb1.out.setCell (Nat.le_refl _) _)
  have Hown2 : Hid (w2.ownsRow (w.heap.size + 2) 68 4 (.slice A1 n d1) n (rCells rg)) := Lib.hid (by
    rw [hw2]; exact own_other Hown1.out (only_setCell (g := w.heap.size) (World.grownBy.refl _ _) (.inl rfl) _) (fun k hk e => by injection e with e; have := own_base Hown1.out k hk; omega))
  have Hz2 := Lib.hid hz2
  have a0 := cell_of_row _ _ 0 _ _ _ hr2
  have a1 := cell_of_row _ _ 1 _ _ _ hr2
  have a2 := cell_of_row _ _ 2 _ _ _ hr2
  have a3 := cell_of_row _ _ 3 _ _ _ hr2
  have a4 := cell_of_row _ _ 4 _ _ _ hr2
  have z0 := cell_of_row _ _ 0 _ _ _ hz2
  have z1 := cell_of_row _ _ 1 _ _ _ hz2
  have z2 := cell_of_row _ _ 2 _ _ _ hz2
  have z3 := cell_of_row _ _ 3 _ _ _ hz2
  have z4 := cell_of_row _ _ 4 _ _ _ hz2
  have g0 := frozen_of_row _ _ 0 _ _ hz2
  have g1 := frozen_of_row _ _ 1 _ _ hz2
  have g2 := frozen_of_row _ _ 2 _ _ hz2
  have g3 := frozen_of_row _ _ 3 _ _ hz2
  have g5 := frozen_of_row _ _ 4 _ _ hz2
  clear hw2 hr2 hz2 d4 g4
  go_wp2
  have hz5 := ft5 (x := .int .i64 num) (y := .int .i64 kd) (z := .int .i64 fr) (u := .int .i64 un) (v := .slice A1 n d1) Hz2.out
  have y0 := cell_of_row _ _ 0 _ _ _ hz5
  have y1 := cell_of_row _ _ 1 _ _ _ hz5
  have y2 := cell_of_row _ _ 2 _ _ _ hz5
  have y3 := cell_of_row _ _ 3 _ _ _ hz5
  have y4 := cell_of_row _ _ 4 _ _ _ hz5
  refine bodyPost_ret (v := .agg #[.int .i64 num, .int .i64 kd, .int .i64 fr, .int .i64 un, .slice A1 n d1]) (by simp only [results, Tryz.results176, go_sem, y0, y1, y2, y3, y4]; first | rfl | simp [go_sem, *]) rfl ?_
  refine ⟨⟨A1, d1⟩, by rw [← Hne.out], ?_, ((((Hb2.out.setCell (Nat.le_succ _) _).setCell (Nat.le_succ _) _).setCell (Nat.le_succ _) _).setCell (Nat.le_succ _) _).setCell (Nat.le_succ _) _⟩
  dsimp only
  rw [Hne.out]
  exact own_rebase (own_other Hown2.out ft5_only (fun k hk e => by injection e with e; have := own_base Hown2.out k hk; omega)) (by omega)
/-- What all leaves. -/
def AllPost (w : World) (m : List Ft) (e : Ending) (w' : World) : Prop :=
  ∃ (l : FtL) (v : Value), e = .returned v ∧ FtOwn w' w.heap.size v l ∧ fts l = m ∧ Below w.heap.size w w'
set_option maxHeartbeats 4000000 in
set_option maxRecDepth 100000 in
theorem all_any (A : Option Addr) (n c : Nat) (l : FtL) (w : World) (hA : SlFt w A n c l) (hl : LyOk (fts l)) :
    Calls Tryz.prog 68 #[.slice A n c] w (AllPost w (fts l)) := by
  obtain ⟨i0, hi, hz0, hz1, hz2⟩ := info_parts Tryz.infoFt
  have hln := hA.len
  have hn60 : n ≤ 60 := by have := hl.len; rw [fts_len] at this; omega
  have HA := Lib.hid hA
  have HL := Lib.hid hl
  have Hln := Lib.hid hln
  clear hA hl hln
  go_enter Tryz.func68, Tryz.ntmps68
  go_upto_region 3 with fail
  go_loopw [3, 5, 8] (fun lv _ iv wr => ∃ (k : Nat) (m : FtL), k ≤ n ∧ iv = .int .i64 (k : Int) ∧ m.length = k ∧ fts m = (fts l).take k ∧ FtOwn wr w.heap.size lv m ∧ Below w.heap.size w wr) (fun _ _ iv _ => n - (intOf iv).toNat)
  case atStart => exact ⟨0, [], Nat.zero_le _, rfl, rfl, by simp [fts], FtOwn.nil _ _, Below.refl _ _⟩
  case round =>
    obtain ⟨k, m, hk, rfl, hmk, hfm, hown, hbw⟩ := hrel
    obtain ⟨wo, rfl⟩ : ∃ wo : World, wo = wr := ⟨_, rfl⟩
    have Hfm := Lib.hid hfm
    have Hown := Lib.hid hown
    have Hbw := Lib.hid hbw
    have hsw := hbw.size
    have Hmk := Lib.hid hmk
    clear hfm hown hbw hmk
    by_cases hkn : k < n
    · have hkn' : (k : Int) < (n : Int) := by omega
      have hkl : k < l.length := by rw [Hln.out]; exact hkn
      obtain ⟨b, off, rfl, hbl, c0, c1, c2, c3, c4, hS⟩ := (HA.out.below Hbw.out).at k hkl
      have hok := HL.out.ok l[k].1 (List.mem_map_of_mem (List.getElem_mem hkl))
      have hrl : l[k].1.rg.length ≤ 120 := (valid_parts hok.rg).1
      have Hstep : Hid (∀ v : LV, fts (m ++ [(l[k].1, v)]) = (fts l).take (k + 1)) := Lib.hid (fun v => by
        have h := List.take_succ_eq_append_getElem (l := fts l) (i := k) (by rw [fts_len]; exact hkl)
        rw [h, ← Hfm.out, fts_get l k hkl]
        simp [fts])
      obtain ⟨x, hx⟩ : ∃ x, x = l[k] := ⟨_, rfl⟩
      rw [← hx] at c0 c1 c2 c3 c4 hS hrl Hstep
      have HS := Lib.hid hS
      clear hS hok hx
      go_upto_region 5 with fail
      obtain ⟨w1, hw1⟩ : ∃ w1 : World, w1 = wo.alloc (.cells #[.int .i64 x.1.num, .int .i64 x.1.kd, .int .i64 x.1.fr, .int .i64 x.1.un, .slice x.2.a x.1.rg.length x.2.c] 54) := ⟨_, rfl⟩
      rw [← hw1]
      have hr1 : w1.heap[wo.heap.size]? = some (.cells #[.int .i64 x.1.num, .int .i64 x.1.kd, .int .i64 x.1.fr, .int .i64 x.1.un, .slice x.2.a x.1.rg.length x.2.c] 54 (0, 0)) := by rw [hw1]; exact heap_alloc_new wo _
      have Hb1 : Hid (Below wo.heap.size wo w1) := Lib.hid (by rw [hw1]; exact (by repeat' (first | with_reducible exact Below.refl _ _ | with_reducible refine below_drewN ?_ _ | with_reducible refine Below.drew ?_ | with_reducible refine Below.alloc ?_ ?_ _ | with_reducible refine Below.setCell ?_ ?_ _ | with_reducible refine Below.trans ?_ (Below.mono (by with_reducible assumption) ?_) | (simp; done) | (simp; omega) | omega)))
      have hs1 : wo.heap.size < w1.heap.size := by rw [hw1]; simp
      have HS1 := Lib.hid (HS.out.below Hb1.out)
      have d0 := cell_of_row _ _ 0 _ _ _ hr1
      have d1 := cell_of_row _ _ 1 _ _ _ hr1
      have d2 := cell_of_row _ _ 2 _ _ _ hr1
      have d3 := cell_of_row _ _ 3 _ _ _ hr1
      have d4 := cell_of_row _ _ 4 _ _ _ hr1
      clear hw1 hr1 c0 c1 c2 c3 c4
      go_wp2_with (first
        | (go_at_call 176
           refine (copied_any9 x.1 x.2 _ HS1.out (by omega)).mono ?_
           rintro e w2 ⟨v2, rfl, hown2, hb2⟩
           have Hb2 := Lib.hid (Hb1.out.trans (hb2.mono (by omega)))
           have Hx2 := Lib.hid (own_rebase (base' := w.heap.size) hown2 (by omega))
           have Hap2 : Hid (∀ g, u3.ownBlock = some g → (Value.slice v2.a x.1.rg.length v2.c).ownBlock ≠ some g) := Lib.hid (fun g hg e => by
             have := own_ltY Hown.out.o g hg
             have := own_base hown2 g e
             omega)
           have Hown2 := Lib.hid (Hown.out.below Hb2.out)
           have hs2 : wo.heap.size ≤ w2.heap.size := Hb2.out.size
           clear hb2 hown2)
        | (at_builtin
           refine wpList_append_any _ rfl (.tmp 12) (.tmp 15) _ rfl w.heap.size 54 i0 _ 5 56 Tryz.underlying51 hi hz0 hz1 hz2 rfl (by omega) _ m.length (ftCells m) rfl
             (Hown2.out.o.alloc _) _ _ 1 1 [.int .i64 x.1.num, .int .i64 x.1.kd, .int .i64 x.1.fr, .int .i64 x.1.un, .slice v2.a x.1.rg.length v2.c] rfl ⟨rfl, fun _ => ⟨_, rfl, Nat.lt_succ_self _, fun j u hu => (by exact news_any _ _ _ j u hu)⟩⟩ (by simp [Value.oneCell']) (by have := Hmk.out; simp only [maxLen]; omega) (by have := Hmk.out; omega) (by simp; omega) ?_
           intro v5 w5 hown5 hg5 hat5
           have Hown5 := Lib.hid (Hown2.out.push (x.1, v2) Hx2.out Hap2.out ((Below.refl _ _).alloc (Nat.le_refl _) _) hg5 hown5 hat5)
           have Hb5 := Lib.hid (((Hbw.out.trans (Hb2.out.mono hsw)).alloc (Nat.le_trans hsw hs2) (.cells #[.int .i64 x.1.num, .int .i64 x.1.kd, .int .i64 x.1.fr, .int .i64 x.1.un, .slice v2.a x.1.rg.length v2.c] 54)).grown hg5 (by simp; omega) (own_base Hown2.out.o))
           clear hown5 hg5 hat5)
        | fail)
      go_roundw
      case rel =>
        exact ⟨k + 1, m ++ [(x.1, v2)], by omega, by go_num, by rw [List.length_append, Hmk.out]; rfl, Hstep.out v2, Hown5.out, Hb5.out⟩
      case measure => simp [intOf]; omega
    · have hkn' : ¬ (k : Int) < (n : Int) := by omega
      have Hend : Hid (fts m = fts l) := Lib.hid (by rw [Hfm.out, List.take_of_length_le (by rw [fts_len, Hln.out]; omega)])
      go_wp2
      go_ret
      exact ⟨m, _, rfl, Hown.out, Hend.out, Hbw.out⟩
end Go.Proofs.YtfmkmhhghmdakaaGreatDoor
namespace Go.Proofs.YtfmkmhhghmdakaaGreatDoor
open Go.RowKit Go.Shelf
set_option linter.unusedVariables false
set_option linter.unusedSimpArgs false

theorem isThere_eq (d : Int) (x : Ft) : isThere d x = (decide (x.fr ≤ d) && decide (d < x.un)) := rfl
set_option maxHeartbeats 1000000 in
theorem there_any (x : Ft) (v : LV) (d : Int) (w : World) :
    Calls Tryz.prog 70 #[.agg #[.int .i64 x.num, .int .i64 x.kd, .int .i64 x.fr, .int .i64 x.un, .slice v.a x.rg.length v.c], .int .i64 d] w fun e w' => e = .returned (.bool (isThere d x)) ∧ Below w.heap.size w w' := by
  rw [isThere_eq]
  obtain ⟨num, kd, fr, un, rg⟩ := x
  dsimp only
  generalize rg.length = n
  by_cases c1 : fr ≤ d
  · by_cases c2 : d < un
    · have c1d : decide (fr ≤ d) = true := decide_eq_true c1
      have c2d : decide (d < un) = true := decide_eq_true c2
      rw [c1d, c2d]
      go_enter Tryz.func70, Tryz.ntmps70
      go_upto_region 1 with fail
      obtain ⟨w1, hw1⟩ : ∃ w1 : World, w1 = w.alloc (.cells #[.int .i64 num, .int .i64 kd, .int .i64 fr, .int .i64 un, .slice v.a n v.c] 54) := ⟨_, rfl⟩
      rw [← hw1]
      have hr1 : w1.heap[w.heap.size]? = some (.cells #[.int .i64 num, .int .i64 kd, .int .i64 fr, .int .i64 un, .slice v.a n v.c] 54 (0, 0)) := by rw [hw1]; exact heap_alloc_new w _
      have Hb1 : Hid (Below w.heap.size w w1) := Lib.hid (by rw [hw1]; exact (by repeat' (first | with_reducible exact Below.refl _ _ | with_reducible refine below_drewN ?_ _ | with_reducible refine Below.drew ?_ | with_reducible refine Below.alloc ?_ ?_ _ | with_reducible refine Below.setCell ?_ ?_ _ | with_reducible refine Below.trans ?_ (Below.mono (by with_reducible assumption) ?_) | (simp; done) | (simp; omega) | omega)))
      have d2 := cell_of_row _ _ 2 _ _ _ hr1
      have d3 := cell_of_row _ _ 3 _ _ _ hr1
      clear hw1 hr1
      go_wp2
      go_ret
      exact ⟨rfl, Hb1.out⟩
    · have c1d : decide (fr ≤ d) = true := decide_eq_true c1
      have c2d : decide (d < un) = false := decide_eq_false c2
      rw [c1d, c2d]
      go_enter Tryz.func70, Tryz.ntmps70
      go_upto_region 1 with fail
      obtain ⟨w1, hw1⟩ : ∃ w1 : World, w1 = w.alloc (.cells #[.int .i64 num, .int .i64 kd, .int .i64 fr, .int .i64 un, .slice v.a n v.c] 54) := ⟨_, rfl⟩
      rw [← hw1]
      have hr1 : w1.heap[w.heap.size]? = some (.cells #[.int .i64 num, .int .i64 kd, .int .i64 fr, .int .i64 un, .slice v.a n v.c] 54 (0, 0)) := by rw [hw1]; exact heap_alloc_new w _
      have Hb1 : Hid (Below w.heap.size w w1) := Lib.hid (by rw [hw1]; exact (by repeat' (first | with_reducible exact Below.refl _ _ | with_reducible refine below_drewN ?_ _ | with_reducible refine Below.drew ?_ | with_reducible refine Below.alloc ?_ ?_ _ | with_reducible refine Below.setCell ?_ ?_ _ | with_reducible refine Below.trans ?_ (Below.mono (by with_reducible assumption) ?_) | (simp; done) | (simp; omega) | omega)))
      have d2 := cell_of_row _ _ 2 _ _ _ hr1
      have d3 := cell_of_row _ _ 3 _ _ _ hr1
      clear hw1 hr1
      go_wp2
      go_ret
      exact ⟨rfl, Hb1.out⟩
  · have c1d : decide (fr ≤ d) = false := decide_eq_false c1
    rw [c1d]
    go_enter Tryz.func70, Tryz.ntmps70
    go_upto_region 1 with fail
    obtain ⟨w1, hw1⟩ : ∃ w1 : World, w1 = w.alloc (.cells #[.int .i64 num, .int .i64 kd, .int .i64 fr, .int .i64 un, .slice v.a n v.c] 54) := ⟨_, rfl⟩
    rw [← hw1]
    have hr1 : w1.heap[w.heap.size]? = some (.cells #[.int .i64 num, .int .i64 kd, .int .i64 fr, .int .i64 un, .slice v.a n v.c] 54 (0, 0)) := by rw [hw1]; exact heap_alloc_new w _
    have Hb1 : Hid (Below w.heap.size w w1) := Lib.hid (by rw [hw1]; exact (by repeat' (first | with_reducible exact Below.refl _ _ | with_reducible refine below_drewN ?_ _ | with_reducible refine Below.drew ?_ | with_reducible refine Below.alloc ?_ ?_ _ | with_reducible refine Below.setCell ?_ ?_ _ | with_reducible refine Below.trans ?_ (Below.mono (by with_reducible assumption) ?_) | (simp; done) | (simp; omega) | omega)))
    have d2 := cell_of_row _ _ 2 _ _ _ hr1
    have d3 := cell_of_row _ _ 3 _ _ _ hr1
    clear hw1 hr1
    go_wp2
    go_ret
    exact ⟨rfl, Hb1.out⟩
set_option maxHeartbeats 1000000 in
theorem on1_any (x : Ft) (v : LV) (g : Nat) (d : Int) (w : World) (hd : w.cell? ⟨g, 0, none⟩ = some (.int .i64 d)) (hg : g < w.heap.size) :
    Calls Tryz.prog 69 #[.agg #[.int .i64 x.num, .int .i64 x.kd, .int .i64 x.fr, .int .i64 x.un, .slice v.a x.rg.length v.c], .pointer (some ⟨g, 0, none⟩)] w fun e w' => e = .returned (.bool (!isThere d x)) ∧ Below w.heap.size w w' := by
  have HT := Lib.hid (fun W => there_any x v d W)
  obtain ⟨num, kd, fr, un, rg⟩ := x
  dsimp only at HT ⊢
  generalize isThere d ⟨num, kd, fr, un, rg⟩ = b at *
  generalize rg.length = n at *
  have Hd := Lib.hid hd
  clear hd
  go_enter Tryz.func69, Tryz.ntmps69
  go_upto_region 1 with fail
  obtain ⟨w1, hw1⟩ : ∃ w1 : World, w1 = w.alloc (.cells #[.int .i64 num, .int .i64 kd, .int .i64 fr, .int .i64 un, .slice v.a n v.c] 54) := ⟨_, rfl⟩
  rw [← hw1]
  have hr1 : w1.heap[w.heap.size]? = some (.cells #[.int .i64 num, .int .i64 kd, .int .i64 fr, .int .i64 un, .slice v.a n v.c] 54 (0, 0)) := by rw [hw1]; exact heap_alloc_new w _
  have Hb1 : Hid (Below w.heap.size w w1) := Lib.hid (by rw [hw1]; exact (by repeat' (first | with_reducible exact Below.refl _ _ | with_reducible refine below_drewN ?_ _ | with_reducible refine Below.drew ?_ | with_reducible refine Below.alloc ?_ ?_ _ | with_reducible refine Below.setCell ?_ ?_ _ | with_reducible refine Below.trans ?_ (Below.mono (by with_reducible assumption) ?_) | (simp; done) | (simp; omega) | omega)))
  have hs1 : w.heap.size ≤ w1.heap.size := Hb1.out.size
  have hd1 := (Hb1.out.cell (p := ⟨g, 0, none⟩) hg).trans Hd.out
  have d0 := cell_of_row _ _ 0 _ _ _ hr1
  have d1 := cell_of_row _ _ 1 _ _ _ hr1
  have d2 := cell_of_row _ _ 2 _ _ _ hr1
  have d3 := cell_of_row _ _ 3 _ _ _ hr1
  have d4 := cell_of_row _ _ 4 _ _ _ hr1
  clear hw1 hr1
  go_wp2_with (first
    | (go_at_call 70; refine (HT.out _).mono ?_; rintro e w2 ⟨rfl, hb2⟩; have Hb2 := Lib.hid hb2; clear hb2)
    | fail)
  go_ret
  exact ⟨rfl, Hb1.out.trans (Hb2.out.mono hs1)⟩
set_option maxHeartbeats 1000000 in
theorem right_any (A : Option Addr) (n c : Nat) (l : FtL) (d : Int) (w : World) (hA : SlFt w A n c l) (hl : LyOk (fts l)) (hd : 0 ≤ d ∧ d ≤ 36864) :
    Calls Tryz.prog 66 #[.slice A n c, .int .i64 d] w fun e w' => e = .returned (.int .i64 0) ∧ Below w.heap.size w w' := by
  have HC := Lib.hid (checkFt_any A n c l w hA hl)
  have n1 : ¬ d < 0 := by omega
  have n2 : ¬ (36864 : Int) < d := by omega
  clear hA hl
  go_enter Tryz.func66, Tryz.ntmps66
  go_wp2_with (first
    | (go_at_call 174; refine HC.out.mono ?_; rintro e w2 ⟨rfl, hb2⟩; have Hb2 := Lib.hid hb2; clear hb2)
    | fail)
  go_ret
  exact ⟨rfl, Hb2.out⟩
/-- The first feature that is not there. -/
def IdxOk (d : Int) (l : List Ft) (k : Int) : Prop := (k = -1 ∧ onP l d = l) ∨ ∃ j : Nat, k = (j : Int) ∧ j < l.length ∧ onP (l.take (j + 1)) d = l.take j
theorem onP_snoc (l : List Ft) (x : Ft) (d : Int) : onP (l ++ [x]) d = if isThere d x = true then onP l d ++ [x] else onP l d := by
  unfold onP
  rw [List.filter_append]
  by_cases h : isThere d x = true <;> simp [h]
theorem onP_take (l : List Ft) (d : Int) (k : Nat) (h : k < l.length) : onP (l.take (k + 1)) d = if isThere d l[k] = true then onP (l.take k) d ++ [l[k]] else onP (l.take k) d := by
  rw [List.take_succ_eq_append_getElem h, onP_snoc]
set_option maxHeartbeats 2000000 in
theorem index9_any (g : Nat) (d : Int) (A : Option Addr) (n c : Nat) (l : FtL) (w : World) (hA : SlFt w A n c l) (hn : n ≤ 60) (hd : w.cell? ⟨g, 0, none⟩ = some (.int .i64 d)) (hg : g < w.heap.size) :
    Calls Tryz.prog 175 #[.slice A n c, .func (.func 69) #[] #[.pointer (some ⟨g, 0, none⟩)]] w fun e w' => ∃ k : Int, e = .returned (.int .i64 k) ∧ IdxOk d (fts l) k ∧ Below w.heap.size w w' := by
  have HA := Lib.hid hA
  have Hln := Lib.hid hA.len
  have Hd := Lib.hid hd
  clear hA hd
  go_enter Tryz.func175, Tryz.ntmps175
  go_upto_region 2 with fail
  go_loopw [5, 8] (fun _ iv wr => ∃ k : Nat, k ≤ n ∧ iv = .int .i64 (k : Int) ∧ onP ((fts l).take k) d = (fts l).take k ∧ Below w.heap.size w wr) (fun _ iv _ => n - (intOf iv).toNat)
  case atStart => exact ⟨0, Nat.zero_le _, rfl, rfl, Below.refl _ _⟩
  case round =>
    obtain ⟨k, hk, rfl, hno, hbw⟩ := hrel
    obtain ⟨wo, rfl⟩ : ∃ wo : World, wo = wr := ⟨_, rfl⟩
    have Hno := Lib.hid hno
    have Hbw := Lib.hid hbw
    have hsw := hbw.size
    clear hno hbw
    by_cases hkn : k < n
    · have hkn' : (k : Int) < (n : Int) := by omega
      have hkl : k < l.length := by rw [Hln.out]; exact hkn
      have hkf : k < (fts l).length := by rw [fts_len]; exact hkl
      obtain ⟨b, off, rfl, hbl, c0, c1, c2, c3, c4, hS⟩ := (HA.out.below Hbw.out).at k hkl
      have HO := Lib.hid (on1_any l[k].1 l[k].2 g d wo ((Hbw.out.cell (p := ⟨g, 0, none⟩) hg).trans Hd.out) (by omega))
      have Ht := Lib.hid (onP_take (fts l) d k hkf)
      rw [fts_get l k hkl, Hno.out] at Ht
      have Hs := Lib.hid (List.take_succ_eq_append_getElem hkf)
      rw [fts_get l k hkl] at Hs
      obtain ⟨x, hx⟩ : ∃ x, x = l[k] := ⟨_, rfl⟩
      rw [← hx] at c0 c1 c2 c3 c4 HO Ht Hs
      clear hS hx
      cases hq : isThere d x.1 with
      | true =>
        rw [hq] at HO Ht
        clear hq
        go_wp2_with (first
          | (go_at_call 69; refine HO.out.mono ?_; rintro e w2 ⟨rfl, hb2⟩; have Hb2 := Lib.hid (Hbw.out.trans (hb2.mono hsw)); clear hb2)
          | fail)
        go_roundw
        case rel => exact ⟨k + 1, by omega, by go_num, by rw [Ht.out, Hs.out]; rfl, Hb2.out⟩
        case measure => simp [intOf]; omega
      | false =>
        rw [hq] at HO Ht
        clear hq
        go_wp2_with (first
          | (go_at_call 69; refine HO.out.mono ?_; rintro e w2 ⟨rfl, hb2⟩; have Hb2 := Lib.hid (Hbw.out.trans (hb2.mono hsw)); clear hb2)
          | fail)
        go_ret
        exact ⟨_, rfl, .inr ⟨k, rfl, hkf, by rw [Ht.out]; rfl⟩, Hb2.out⟩
    · have hkn' : ¬ (k : Int) < (n : Int) := by omega
      have Hall : Hid (onP (fts l) d = fts l) := Lib.hid (by have := Hno.out; rwa [List.take_of_length_le (by rw [fts_len, Hln.out]; omega)] at this)
      go_wp2
      go_ret
      exact ⟨_, rfl, .inl ⟨rfl, Hall.out⟩, Hbw.out⟩
end Go.Proofs.YtfmkmhhghmdakaaGreatDoor
namespace Go.Proofs.YtfmkmhhghmdakaaGreatDoor
open Go.RowKit Go.Shelf
set_option linter.unusedVariables false
set_option linter.unusedSimpArgs false

theorem ftCells_set : ∀ (m : FtL) (i : Nat) (y : Ft × LV), i < m.length → ftCells (m.set i y) = (((((ftCells m).set (i * 5) (.int .i64 y.1.num)).set (i * 5 + 1) (.int .i64 y.1.kd)).set (i * 5 + 2) (.int .i64 y.1.fr)).set (i * 5 + 3) (.int .i64 y.1.un)).set (i * 5 + 4) (.slice y.2.a y.1.rg.length y.2.c)
  | [], i, y, h => by simp at h
  | x :: t, 0, y, _ => by simp [ftCells, ftC]
  | x :: t, i + 1, y, h => by
    have ih := ftCells_set t i y (by simpa using h)
    have e : ∀ (y : Ft × LV) (s : FtL), ftCells (y :: s) = .int .i64 y.1.num :: .int .i64 y.1.kd :: .int .i64 y.1.fr :: .int .i64 y.1.un :: .slice y.2.a y.1.rg.length y.2.c :: ftCells s := fun y s => by simp [ftCells, ftC]
    rw [List.set_cons_succ, e, e, ih, show (i + 1) * 5 = i * 5 + 5 from by omega]
    rfl
/-- clear of some features. -/
theorem run_clear_ft (w : World) (ty : TypeId) (g o m c : Nat) (cur : Array Value) (hg : w.heap[g]? = some (.cells cur 54 (0, 0))) (ho : o + m * 5 ≤ cur.size) (hm : 0 < m) :
    ∃ zs : List Value, zs.length = m * 5 ∧ (Builtin.clear_ #[51] ty #[.slice (some ⟨g, o, none⟩) m c]).run Tryz.prog w = .ok (.tuple #[]) (w.setRow g (cur.toList.take o ++ zs ++ cur.toList.drop (o + m * 5)).toArray) := by
  obtain ⟨Z, hZ⟩ : ∃ Z : Array Value, Z = #[.int .i64 0, .int .i64 0, .int .i64 0, .int .i64 0, .slice none 0 0] := ⟨_, rfl⟩
  have hzl : (Builtin.zeroCells Z m).toList.length = m * 5 := by rw [Array.length_toList, size_zeroCells, hZ]; rfl
  have h1 : ∀ v ∈ (Builtin.zeroCells Z m).toList, v.oneCell' = true := by
    intro v hv
    unfold Builtin.zeroCells at hv
    rw [Array.toList_map, List.mem_map] at hv
    obtain ⟨i, hi, rfl⟩ := hv
    have h5 : i % Z.size < 5 := by rw [hZ]; exact Nat.mod_lt _ (by decide)
    generalize i % Z.size = k at h5 ⊢
    rw [hZ]
    rcases (show k = 0 ∨ k = 1 ∨ k = 2 ∨ k = 3 ∨ k = 4 by omega) with rfl | rfl | rfl | rfl | rfl <;> rfl
  have hst := run_storeCells_at (P := Tryz.prog) g o 54 (Builtin.zeroCells Z m).toList 0 cur w hg (by rw [hzl]; omega) h1
  have hz : ∀ w : World, (zeroValue 54).run Tryz.prog w = .ok (.agg Z) w := fun w => by rw [hZ]; kernel_rfl
  obtain ⟨m, rfl⟩ : ∃ k, m = k + 1 := ⟨m - 1, by omega⟩
  refine ⟨(Builtin.zeroCells Z (m + 1)).toList, hzl, ?_⟩
  simp only [Nat.add_zero, hzl] at hst
  simp [Builtin.clear_, run_underlying Tryz.underlying51, hz, Value.cells, hst]
theorem only_setRow9 {a w : World} {g : Nat} (h : a.grownBy w (some g)) (b : Nat) (cs : Array Value) (hb : b = g ∨ a.heap.size ≤ b) : a.grownBy (w.setRow b cs) (some g) :=
  ⟨h.os, h.tape, h.output, by simp [World.setRow]; exact h.size, fun i hi hne => by
    rw [← h.block i hi hne]
    have hib : b ≠ i := by
      rintro rfl
      rcases hb with rfl | hb
      · exact hne rfl
      · omega
    simp [World.setRow, Array.getElem?_modify, hib]⟩
/-- The head of a row of one's own, behind a clear of its tail. -/
theorem own_head {w w' : World} {base g n cap i : Nat} {zs : List Value} {m : FtL} {cur : Array Value} (hb : base ≤ g) (hg : w.heap[g]? = some (.cells cur 54 (0, 0))) (hsz : cur.size = cap * 5) (hcap : n ≤ cap) (hmx : cap ≤ maxLen) (ht : cur.toList.take (n * 5) = ftCells m) (hm : m.length = n) (hi : i ≤ n) (hz : zs.length = (n - i) * 5) :
    (w.setRow g (cur.toList.take (i * 5) ++ zs ++ cur.toList.drop (i * 5 + (n - i) * 5)).toArray).ownsRow base 54 5 (.slice (some ⟨g, 0, none⟩) i cap) i (ftCells (m.take i)) := by
  have hti : (m.take i).length = i := by rw [List.length_take]; omega
  refine ⟨by rw [ftCells_len, hti], .inr ⟨g, cap, _, rfl, hb, setRow_heap w g cur _ _ _ hg, by omega, hmx, ?_, ?_⟩⟩
  · simp only [List.size_toArray, List.length_append, List.length_take, List.length_drop, Array.length_toList, hsz, hz]
    omega
  · simp only [List.append_assoc]
    rw [List.take_append_of_le_length (by simp only [List.length_take, Array.length_toList, hsz]; omega), List.take_take, Nat.min_self, ftCells_take, ← ht, List.take_take, Nat.min_eq_left (by omega)]
theorem FtOwn.mem {w w' : World} {base : Nat} {v v' : Value} {l m : FtL} (h : FtOwn w base v l) (hk : ∀ b, v.ownBlock ≠ some b → b < w.heap.size → w'.heap[b]? = w.heap[b]?) (hm : ∀ x ∈ m, x ∈ l) (ho : w'.ownsRow base 54 5 v' m.length (ftCells m)) (hv : v'.ownBlock = v.ownBlock) : FtOwn w' base v' m := by
  refine ⟨ho, fun x hx => ?_, fun x hx g hg => h.ap x (hm x hx) g (by rw [← hv]; exact hg)⟩
  obtain ⟨h1, h2⟩ := h.fs x (hm x hx)
  refine ⟨h1, ?_⟩
  rcases h2 with h2 | ⟨g', cap, cur, e, hb, hh, r⟩
  · exact .inl h2
  · have hlt : g' < w.heap.size := by
      rcases Nat.lt_or_ge g' w.heap.size with h | h
      · exact h
      · rw [Array.getElem?_eq_none h] at hh; cases hh
    refine .inr ⟨g', cap, cur, e, hb, (hk g' (fun hg => ?_) hlt).trans hh, r⟩
    have := h.ap x (hm x hx) g' hg
    rw [e] at this
    exact this rfl

set_option maxHeartbeats 8000000 in
set_option maxRecDepth 100000 in
theorem delete9_any (w0 w : World) (g : Nat) (d : Int) (A : Option Addr) (n c : Nat) (l : FtL) (hb : Below w0.heap.size w0 w) (hown : FtOwn w w0.heap.size (.slice A n c) l) (hln : l.length = n) (hn : n ≤ 60) (hd : w.cell? ⟨g, 0, none⟩ = some (.int .i64 d)) (hg : g < w.heap.size) (hga : ∀ k, (Value.slice A n c).ownBlock = some k → k ≠ g) :
    Calls Tryz.prog 67 #[.slice A n c, .func (.func 69) #[] #[.pointer (some ⟨g, 0, none⟩)]] w (AllPost w0 (onP (fts l) d)) := by
  have HI := Lib.hid (index9_any g d A n c l w (by have := hln; subst this; exact hown.sl) hn hd hg)
  have Hb := Lib.hid hb
  have Hown := Lib.hid hown
  have Hln := Lib.hid hln
  have Hd := Lib.hid hd
  have Hga := Lib.hid hga
  have hs0 : w0.heap.size ≤ w.heap.size := hb.size
  clear hb hown hln hd hga
  go_enter Tryz.func67, Tryz.ntmps67
  go_upto_region 2 with (first
    | (go_at_call 175; refine HI.out.mono ?_; rintro e w1 ⟨k0, rfl, hidx, hb1⟩; have Hidx := Lib.hid hidx; have Hb1 := Lib.hid hb1; have hs1 := hb1.size; clear hidx hb1)
    | fail)
  rcases Hidx.out with ⟨rfl, hall⟩ | ⟨j0, rfl, hj0, htk⟩
  · go_wp2
    go_ret
    exact ⟨l, _, rfl, Hown.out.below Hb1.out, hall.symm, Hb.out.trans (Hb1.out.mono hs0)⟩
  · have hj0n : j0 < n := by rw [fts_len, Hln.out] at hj0; exact hj0
    have Htk := Lib.hid htk
    have hnn : ¬ ((j0 : Int) = -1) := by omega
    have hnq : ((j0 : Int) == -1) = false := by simp
    obtain ⟨J0, hJ0⟩ : ∃ J0 : Nat, J0 = j0 + 1 := ⟨_, rfl⟩
    have HJ0 := Lib.hid hJ0
    have hw0 : IntKind.i64.wrap ((j0 : Int) + 1) = (J0 : Int) := by rw [hJ0, show ((j0 : Int) + 1) = ((j0 + 1 : Nat) : Int) from by omega]; exact IntWalk.i64_in _ (by omega)
    clear hJ0
    clear htk hj0
    obtain ⟨gA, cA, hA, hgb, hgl, hnc, hcm, -, -⟩ := own_at (Hown.out.o) (by rw [Hln.out]; omega)
    injection hA with e1 e2 e3
    subst e1 e3
    clear e2
    have hgA : gA ≠ g := Hga.out gA rfl
    replace hnc : n ≤ c := by have := Hln.out; omega
    unfold maxLen at hcm
    go_upto_region 5 with fail
    go_loopw [5, 6, 7] (fun iv jv _ wr => ∃ (i j : Nat) (m : FtL), iv = .int .i64 (i : Int) ∧ jv = .int .i64 (j : Int) ∧ i < j ∧ j ≤ n ∧ m.length = n ∧ (∀ x ∈ m, x ∈ l) ∧ fts (m.take i) = onP ((fts l).take j) d ∧ m.drop j = l.drop j ∧ FtOwn wr w0.heap.size (.slice (some ⟨gA, 0, none⟩) n c) m ∧ w1.grownBy wr (some gA)) (fun _ jv _ _ => n - (intOf jv).toNat)
    case atStart => exact ⟨j0, J0, l, rfl, rfl, by have := HJ0.out; omega, by have := HJ0.out; omega, Hln.out, fun x hx => hx, by rw [HJ0.out, Htk.out]; simp [fts, List.map_take], rfl, Hown.out.below Hb1.out, World.grownBy.refl _ _⟩
    case round =>
      obtain ⟨i, j, m, rfl, rfl, hij, hjn, hmn, hmem, hti, hdj, hom, hgr⟩ := hrel
      obtain ⟨wo, rfl⟩ : ∃ wo : World, wo = wr := ⟨_, rfl⟩
      have Hmn := Lib.hid hmn
      have Hmem := Lib.hid hmem
      have Hti := Lib.hid hti
      have Hdj := Lib.hid hdj
      have Hom := Lib.hid hom
      have Hgr := Lib.hid hgr
      have hso := hgr.size
      clear hmn hmem hti hdj hom hgr
      by_cases hlt : j < n
      · have hlt' : (j : Int) < (n : Int) := by omega
        have hmj : j < m.length := by rw [Hmn.out]; exact hlt
        have hlj : j < l.length := by rw [Hln.out]; exact hlt
        have hlf : j < (fts l).length := by rw [fts_len]; exact hlj
        have heq : m[j] = l[j] := by
          have h1 : (m.drop j)[0]? = (l.drop j)[0]? := by rw [Hdj.out]
          rw [List.getElem?_drop, List.getElem?_drop, Nat.add_zero, List.getElem?_eq_getElem hmj, List.getElem?_eq_getElem hlj] at h1
          exact Option.some.inj h1
        have Ht := Lib.hid (onP_take (fts l) d j hlf)
        rw [fts_get l j hlj, ← heq, ← Hti.out] at Ht
        have Hmj : Hid (m[j] ∈ m) := Lib.hid (List.getElem_mem hmj)
        have Hd2 : Hid (m.drop (j + 1) = l.drop (j + 1)) := Lib.hid (by
          have := congrArg (List.drop 1) Hdj.out
          rwa [List.drop_drop, List.drop_drop] at this)
        obtain ⟨b', off', hbe, hbl, c0, c1, c2, c3, c4, hS⟩ := (show SlFt wo (some ⟨gA, 0, none⟩) m.length c m from (by have := Hom.out; rw [← Hmn.out] at this; exact this.sl)).at j hmj
        injection hbe with hbe
        injection hbe with hb1 hb2
        subst hb1 hb2
        rw [Nat.zero_add] at c0 c1 c2 c3 c4
        obtain ⟨x, hx⟩ : ∃ x, x = m[j] := ⟨_, rfl⟩
        rw [← hx] at c0 c1 c2 c3 c4 hS Ht Hmj heq
        clear hS hx heq
        go_upto_region 8 with fail
        obtain ⟨wa, hwa⟩ : ∃ wa : World, wa = wo.alloc (.cells #[.int .i64 x.1.num, .int .i64 x.1.kd, .int .i64 x.1.fr, .int .i64 x.1.un, .slice x.2.a x.1.rg.length x.2.c] 54) := ⟨_, rfl⟩
        rw [← hwa]
        have hra : wa.heap[wo.heap.size]? = some (.cells #[.int .i64 x.1.num, .int .i64 x.1.kd, .int .i64 x.1.fr, .int .i64 x.1.un, .slice x.2.a x.1.rg.length x.2.c] 54 (0, 0)) := by rw [hwa]; exact heap_alloc_new wo _
        have Hra := Lib.hid hra
        have Hba : Hid (Below wo.heap.size wo wa) := Lib.hid (by rw [hwa]; exact (by repeat' (first | with_reducible exact Below.refl _ _ | with_reducible refine below_drewN ?_ _ | with_reducible refine Below.drew ?_ | with_reducible refine Below.alloc ?_ ?_ _ | with_reducible refine Below.setCell ?_ ?_ _ | with_reducible refine Below.trans ?_ (Below.mono (by with_reducible assumption) ?_) | (simp; done) | (simp; omega) | omega)))
        have hsa : wo.heap.size < wa.heap.size := by rw [hwa]; simp
        have HO := Lib.hid (on1_any x.1 x.2 g d wa (by
          have h1 := World.cell?_of_block (a := ⟨g, 0, none⟩) ((Hba.out.block g (by omega)).trans (Hgr.out.block g (by omega) (fun e => by injection e with e; exact hgA e.symm)))
          rw [h1]
          exact (Hb1.out.cell (p := ⟨g, 0, none⟩) hg).trans Hd.out) (by omega))
        have d0 := cell_of_row _ _ 0 _ _ _ hra
        have d1 := cell_of_row _ _ 1 _ _ _ hra
        have d2 := cell_of_row _ _ 2 _ _ _ hra
        have d3 := cell_of_row _ _ 3 _ _ _ hra
        have d4 := cell_of_row _ _ 4 _ _ _ hra
        clear hwa hra c0 c1 c2 c3 c4
        cases hq : isThere d x.1 with
        | false =>
          rw [hq] at HO Ht
          clear hq
          go_wp2_with (first
            | (go_at_call 69; refine HO.out.mono ?_; rintro e w2 ⟨rfl, hb2⟩; have Hb2 := Lib.hid (Hba.out.trans (hb2.mono (by omega))); clear hb2)
            | fail)
          go_roundw
          case rel => exact ⟨i, j + 1, m, rfl, by go_num, by omega, by omega, Hmn.out, Hmem.out, by rw [Ht.out]; rfl, Hd2.out, Hom.out.below Hb2.out, only_below Hgr.out Hb2.out hso⟩
          case measure => simp [intOf]; omega
        | true =>
          rw [hq] at HO Ht
          clear hq
          go_upto_region 9 with (first
            | (go_at_call 69
               refine HO.out.mono ?_
               rintro e w2 ⟨rfl, hb2⟩
               have hrb := (hb2.block wo.heap.size hsa).trans Hra.out
               have Hb2 := Lib.hid (Hba.out.trans (hb2.mono (by omega)))
               have Ho2 := Lib.hid (Hom.out.below Hb2.out)
               have Hg2 := Lib.hid (only_below Hgr.out Hb2.out hso)
               have f0 := cell_of_row _ _ 0 _ _ _ hrb
               have f1 := cell_of_row _ _ 1 _ _ _ hrb
               have f2 := cell_of_row _ _ 2 _ _ _ hrb
               have f3 := cell_of_row _ _ 3 _ _ _ hrb
               have f4 := cell_of_row _ _ 4 _ _ _ hrb
               clear hrb hb2 d0 d1 d2 d3 d4)
            | fail)
          have him : i < m.length := by rw [Hmn.out]; omega
          obtain ⟨k0, k1, k2, k3, k4⟩ := ftCells_at m i him
          obtain ⟨hcell, hfr⟩ : (∀ j u, (ftCells m)[j]? = some u → w2.cell? ⟨gA, j, none⟩ = some u) ∧ ∀ j, w2.frozen? ⟨gA, j, none⟩ = false := by
            obtain ⟨g', c', hAe, _, _, _, _, h1, h2⟩ := own_at Ho2.out.o (by rw [Hmn.out]; omega)
            injection hAe with e1 _ _
            injection e1 with e1
            injection e1 with e1
            subst e1
            exact ⟨h1, h2⟩
          have s0 := hcell _ _ k0
          have s1 := hcell _ _ k1
          have s2 := hcell _ _ k2
          have s3 := hcell _ _ k3
          have s4 := hcell _ _ k4
          have t0 := hfr (i * 5)
          have t1 := hfr (i * 5 + 1)
          have t2 := hfr (i * 5 + 2)
          have t3 := hfr (i * 5 + 3)
          have t4 := hfr (i * 5 + 4)
          have hin' : (i : Int) < (n : Int) := by omega
          have hin2 : i < n := by omega
          clear k0 k1 k2 k3 k4 hcell hfr
          go_wp2
          go_roundw
          case rel =>
            have Hset : Hid (FtOwn (((((w2.setCell ⟨gA, i * 5, none⟩ (.int .i64 x.1.num)).setCell ⟨gA, i * 5 + 1, none⟩ (.int .i64 x.1.kd)).setCell ⟨gA, i * 5 + 2, none⟩ (.int .i64 x.1.fr)).setCell ⟨gA, i * 5 + 3, none⟩ (.int .i64 x.1.un)).setCell ⟨gA, i * 5 + 4, none⟩ (.slice x.2.a x.1.rg.length x.2.c)) w0.heap.size (.slice (some ⟨gA, 0, none⟩) n c) (m.set i x)) := Lib.hid (by
              refine Ho2.out.mem (fun b hne hb => ?_) (fun y hy => ?_) ?_ rfl
              · have hne2 : b ≠ gA := fun e => hne (by rw [e]; rfl)
                rw [Below.heap_setCell _ _ _ _ hne2, Below.heap_setCell _ _ _ _ hne2, Below.heap_setCell _ _ _ _ hne2, Below.heap_setCell _ _ _ _ hne2, Below.heap_setCell _ _ _ _ hne2]
              · rcases List.mem_or_eq_of_mem_set hy with h | rfl
                · exact h
                · exact Hmj.out
              · rw [List.length_set, ftCells_set m i x him]
                have h5 := Ho2.out.o
                rw [Hmn.out] at h5 ⊢
                exact own_setN (own_setN (own_setN (own_setN (own_setN h5 _ _) _ _) _ _) _ _) _ _)
            refine ⟨i + 1, j + 1, m.set i x, by go_num, by go_num, by omega, by omega, by rw [List.length_set]; exact Hmn.out, fun y hy => ?_, ?_, ?_, Hset.out, ?_⟩
            · rcases List.mem_or_eq_of_mem_set hy with h | rfl
              · exact Hmem.out _ h
              · exact Hmem.out _ Hmj.out
            · rw [Ht.out, if_pos trivial, List.take_succ_eq_append_getElem (by rw [List.length_set]; exact him), List.getElem_set_self, List.take_set_of_le (Nat.le_refl _)]
              simp [fts]
            · rw [List.drop_set_of_lt (by omega)]; exact Hd2.out
            · exact only_setCell (only_setCell (only_setCell (only_setCell (only_setCell Hg2.out (.inl rfl) _) (.inl rfl) _) (.inl rfl) _) (.inl rfl) _) (.inl rfl) _
          case measure => simp [intOf]; omega
      · have hlt' : ¬ (j : Int) < (n : Int) := by omega
        obtain rfl : j = n := by omega
        have Hend : Hid (fts (m.take i) = onP (fts l) d) := Lib.hid (by rw [Hti.out, List.take_of_length_le (by rw [fts_len, Hln.out]; omega)])
        have hin : (i : Int) ≤ (j : Int) := by omega
        have hic : (i : Int) ≤ (c : Int) := by omega
        have hi0 : (0 : Int) ≤ (i : Int) := by omega
        have hci : ¬ c = i := by omega
        have hci2 : ¬ (c : Int) = (i : Int) := by omega
        have ho := Hom.out.o
        rw [Hmn.out] at ho
        obtain ⟨_, h2⟩ := ho
        rcases h2 with ⟨h3, _⟩ | ⟨g', cap', cur, h3, hgb2, hgh, hcap2, hmx2, hsz2, htk2⟩
        · cases h3
        injection h3 with e1 _ e3
        injection e1 with e1
        injection e1 with e1
        subst e1 e3
        obtain ⟨zs, hzs, hclr⟩ := run_clear_ft wo 0 gA (i * 5) (j - i) (c - i) cur hgh (by rw [hsz2]; omega) (by omega)
        have Hown9 := Lib.hid (own_head (w' := wo) hgb2 hgh hsz2 hcap2 hmx2 htk2 Hmn.out (Nat.le_of_lt hij) hzs)
        have Hcl := Lib.hid hclr
        have Hgh := Lib.hid hgh
        obtain ⟨cur3, hcur3⟩ : ∃ c3, (cur.toList.take (i * 5) ++ zs ++ cur.toList.drop (i * 5 + (j - i) * 5)).toArray = c3 := ⟨_, rfl⟩
        rw [hcur3] at Hown9 Hcl
        have hclr0 := Hcl.out
        clear hgh hsz2 htk2 hcur3 hclr hzs hgb2
        go_wp2
        go_ret
        have hgw : w1.grownBy (wo.setRow gA cur3) (some gA) := only_setRow9 Hgr.out gA cur3 (.inl rfl)
        refine ⟨m.take i, _, rfl, Hom.out.mem (fun b hne hb => ?_) (fun x hx => List.mem_of_mem_take hx) (by rw [show (m.take i).length = i from by rw [List.length_take, Hmn.out]; omega]; exact Hown9.out) rfl, Hend.out, below_only (Hb.out.trans (Hb1.out.mono hs0)) hgw (by omega) (by omega)⟩
        have hne2 : gA ≠ b := fun e => hne (by rw [← e]; rfl)
        simp [World.setRow, Array.getElem?_modify, hne2]
set_option maxHeartbeats 4000000 in
theorem on_any (A : Option Addr) (n c : Nat) (l : FtL) (d : Int) (w : World) (hA : SlFt w A n c l) (hl : LyOk (fts l)) (hd : 0 ≤ d ∧ d ≤ 36864) :
    Calls Tryz.prog 19 #[.slice A n c, .int .i64 d] w fun e w' => ∃ (m : FtL) (v : Value), e = .returned (.tuple #[v, .int .i64 0]) ∧ FtOwn w' w.heap.size v m ∧ fts m = onP (fts l) d ∧ Below w.heap.size w w' := by
  have HA := Lib.hid hA
  have HL := Lib.hid hl
  have Hln := Lib.hid hA.len
  have hl60 := hl.len
  clear hA hl
  go_enter Tryz.func19, Tryz.ntmps19
  go_upto_region 1 with fail
  obtain ⟨w1, hw1⟩ : ∃ w1 : World, w1 = w.alloc (.cells #[.int .i64 d] 3) := ⟨_, rfl⟩
  rw [← hw1]
  have hr1 : w1.heap[w.heap.size]? = some (.cells #[.int .i64 d] 3 (0, 0)) := by rw [hw1]; exact heap_alloc_new w _
  have Hr1 := Lib.hid hr1
  have Hb1 : Hid (Below w.heap.size w w1) := Lib.hid (by rw [hw1]; exact (by repeat' (first | with_reducible exact Below.refl _ _ | with_reducible refine below_drewN ?_ _ | with_reducible refine Below.drew ?_ | with_reducible refine Below.alloc ?_ ?_ _ | with_reducible refine Below.setCell ?_ ?_ _ | with_reducible refine Below.trans ?_ (Below.mono (by with_reducible assumption) ?_) | (simp; done) | (simp; omega) | omega)))
  have hs1 : w.heap.size < w1.heap.size := by rw [hw1]; simp
  have HA1 := Lib.hid (HA.out.below Hb1.out)
  have d1 := cell_of_row _ _ 0 _ _ _ hr1
  clear hw1 hr1
  go_wp2_with (first
    | (go_at_call 66
       refine (right_any A n c l d _ HA1.out HL.out hd).mono ?_
       rintro e w2 ⟨rfl, hb2⟩
       have Hb2 := Lib.hid (Hb1.out.trans (hb2.mono (by omega)))
       have Hr2 := Lib.hid ((hb2.block w.heap.size hs1).trans Hr1.out)
       have HA2 := Lib.hid (HA1.out.below hb2)
       have hs2 : w.heap.size < w2.heap.size := Nat.lt_of_lt_of_le hs1 hb2.size
       clear hb2 d1)
    | (go_at_call 68
       refine (all_any A n c l _ HA2.out HL.out).mono ?_
       rintro e w3 ⟨m, v, rfl, hown3, hfm, hb3⟩
       obtain ⟨A3, c3, rfl, _, _, _⟩ := own_slice hown3.o
       have Hr3 := Lib.hid ((hb3.block w.heap.size hs2).trans Hr2.out)
       have hml : m.length ≤ 60 := by have h := congrArg List.length hfm; rw [fts_len] at h; omega
       have HD := Lib.hid (delete9_any w w3 w.heap.size d A3 m.length c3 m (Hb2.out.trans (hb3.mono (by omega))) (hown3.rebase (by omega)) rfl hml (cell_of_row _ _ 0 _ _ _ Hr3.out) (Nat.lt_of_lt_of_le hs2 hb3.size) (fun k hk e => by have := own_base hown3.o k hk; omega))
       rw [hfm] at HD
       obtain ⟨nm, hnm⟩ : ∃ nm, m.length = nm := ⟨_, rfl⟩
       rw [hnm] at HD ⊢
       clear hown3 hb3 hfm hml hnm)
    | (go_at_call 67
       refine HD.out.mono ?_
       rintro e w4 ⟨m4, v4, rfl, hown4, hfm4, hb4⟩
       have Hown4 := Lib.hid hown4
       have Hfm4 := Lib.hid hfm4
       have Hb4 := Lib.hid hb4
       clear hown4 hfm4 hb4)
    | fail)
  go_ret2
  exact ⟨m4, v4, rfl, Hown4.out, Hfm4.out, Hb4.out⟩
end Go.Proofs.YtfmkmhhghmdakaaGreatDoor
